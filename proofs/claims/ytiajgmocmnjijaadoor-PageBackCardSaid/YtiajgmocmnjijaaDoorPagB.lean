/-
  PageBack: the walk, for every argument.
-/
import Derived.Test.YtiajgmocmnjijaaDoorPagV
import Derived.Test.YtiajgmocmnjijaaDoorPagS
import Derived.Test.YtiajgmocmnjijaaDoorRowU
import Derived.Test.YtiajgmocmnjijaaDoorPagE
import Derived.Lib.Hide
namespace Go.Proofs.YtiajgmocmnjijaaDoor.PagB
open Go.RowKit Go.Proofs.YtiajgmocmnjijaaDoor.PPag Go.Proofs.YtiajgmocmnjijaaDoorW.PrintWords Go.Proofs.YtiajgmocmnjijaaDoorW.PrintLast Go.Proofs.YtiajgmocmnjijaaDoorW.PrintMore Go.Proofs.YtiajgmocmnjijaaDoor.Str Go.Proofs.YtiajgmocmnjijaaDoor.SumH Go.Proofs.YtiajgmocmnjijaaDoor.PagP Go.Proofs.YtiajgmocmnjijaaDoor.PagQ Go.Proofs.YtiajgmocmnjijaaDoor.PagW Go.Proofs.YtiajgmocmnjijaaDoor.RowU
set_option linter.unusedVariables false
theorem wakes_c (W : World) (hG : Glob W) : Calls Tryd.prog 10 #[] W fun e w' => e = .returned (.bool true) ∧ Below W.heap.size W w' := by
  obtain ⟨k, hk⟩ := wakes_ev.rounds
  exact umbellaw07_wakes.calls k true W hG hk
theorem put_c (a b : Int) (pl : ByteArray) (at' : Int) (W : World) (hG : Glob W) : Calls Tryd.prog 11 #[.agg #[.int .i64 a, .int .i64 b, .string pl], .int .i64 at'] W fun e w' => e = .returned (.tuple #[.string (putR a b at' pl).1, .bool (putR a b at' pl).2]) ∧ Below W.heap.size W w' := by
  obtain ⟨k, hk⟩ := (put_ev a b at' pl).rounds
  exact page_Put.calls k a b pl at' _ _ W hG hk
theorem get_c (s : ByteArray) (at' : Int) (W : World) (hG : Glob W) : Calls Tryd.prog 13 #[.string s, .int .i64 at'] W fun e w' => e = .returned (.tuple #[.agg #[.int .i64 (getR s at').1, .int .i64 (getR s at').2.1, .string (getR s at').2.2.1], .int .i64 (getR s at').2.2.2]) ∧ Below W.heap.size W w' := by
  obtain ⟨k, hk⟩ := (get_ev s at').rounds
  exact page_Get.calls k s at' _ _ _ _ W hG hk
theorem right_c (s : ByteArray) (W : World) (hG : Glob W) : Calls Tryd.prog 15 #[.string s] W fun e w' => e = .returned (.bool (decide (rightP s))) ∧ Below W.heap.size W w' := by
  obtain ⟨k, hk⟩ := (right_ev s).rounds
  refine (page_Right.calls k s _ W hG hk).mono ?_
  rintro e w' ⟨he, n, rfl⟩
  exact ⟨he, pw_below_drewN (Below.refl _ _) n⟩
theorem at_k (n : Int) : ∃ k : Nat, wrap64 ((IntKind.u64.wrap n).tmod 249) = (k : Int) ∧ k < 249 := by
  have h : IntKind.u64.wrap n = n % 18446744073709551616 := by rw [IntKind.wrap_u64]
  refine ⟨(n % 18446744073709551616 % 249).toNat, ?_, by omega⟩
  rw [h, Int.tmod_eq_emod_of_nonneg (by omega)]
  unfold wrap64; omega
theorem y_at {w : World} {g : Nat} {t : TypeId} (y0 y1 y2 y3 : UInt8) (h : w.heap[g]? = some (.cells #[.int .u8 (y0.toNat : Int), .int .u8 (y1.toNat : Int), .int .u8 (y2.toNat : Int), .int .u8 (y3.toNat : Int)] t (0, 0))) (i : Nat) (hi : i < 4) :
    ∃ y : UInt8, w.cell? ⟨g, i, none⟩ = some (.int .u8 (y.toNat : Int)) ∧ [y0, y1, y2, y3][i]? = some y := by
  have hc := blk_cell h i
  match i, hi with
  | 0, _ => exact ⟨y0, hc.trans rfl, rfl⟩
  | 1, _ => exact ⟨y1, hc.trans rfl, rfl⟩
  | 2, _ => exact ⟨y2, hc.trans rfl, rfl⟩
  | 3, _ => exact ⟨y3, hc.trans rfl, rfl⟩
theorem ext_left (m tl : List UInt8) (h : m.length = 252) : ((txt (m ++ tl)).extract 0 252).data.toList = (txt m).data.toList := by
  rw [txt_data]
  simp [txt, ByteArray.data_extract, ← h]
theorem ext_right (m tl : List UInt8) (h : m.length = 252) (ht : tl.length = 4) : (txt (m ++ tl)).extract 252 256 = txt tl := by
  apply str_ext
  rw [txt_data]
  simp [txt, ByteArray.data_extract, ← h]
  exact List.take_of_length_le (by omega)
theorem four_ne (y0 y1 y2 y3 : UInt8) (hd : ¬ Crc.leNum [y0, y1, y2, y3] = 0) : ((y0.toNat : Int) == 0 && ((y1.toNat : Int) == 0 && ((y2.toNat : Int) == 0 && ((y3.toNat : Int) == 0 && true)))) = false := by
  rw [Bool.eq_false_iff]
  intro q
  simp only [Bool.and_eq_true, beq_iff_eq, Bool.and_true] at q
  have h0 : (0 : UInt8).toNat = 0 := rfl
  exact hd ((Crc.four_zero y0 y1 y2 y3).2 ⟨UInt8.toNat_inj.1 (by rw [h0]; omega), UInt8.toNat_inj.1 (by rw [h0]; omega), UInt8.toNat_inj.1 (by rw [h0]; omega), UInt8.toNat_inj.1 (by rw [h0]; omega)⟩)
set_option maxRecDepth 100000 in
set_option maxHeartbeats 4000000 in
theorem walk (a0 b0 : Int) (c0 : ByteArray) (n0 n1 n2 : Int) (y0 y1 y2 y3 : UInt8) (w : World) (hG : Glob w) :
    Calls Tryd.prog 4 #[.agg #[.int .i64 a0, .int .i64 b0, .string c0], .agg #[.int .i64 n0, .int .i64 n1, .int .i64 n2], .agg #[.int .u8 (y0.toNat : Int), .int .u8 (y1.toNat : Int), .int .u8 (y2.toNat : Int), .int .u8 (y3.toNat : Int)]] w fun e w' => e = .returned (.bool true) ∧ Below w.heap.size w w' := by
  have HG := Aside0.mk hG
  clear hG
  have HB := Aside0.mk (Below.refl w.heap.size w)
  have hu23 := Tryd.underlying23
  by_cases ho : okP a0 b0 n0 c0
  rotate_left
  · have CP := Lib.hid fun W hG => put_c a0 b0 c0 n0 W hG
    rw [putR, if_neg ho] at CP; dsimp only at CP
    clear ho
    have CW := Lib.hid wakes_c
    go_enter Tryd.func4, Tryd.ntmps4
    go_wp2_with (first | ((with_reducible refine gate_dst (N := 3) rfl ?_); (try (refine gate_guard (by rfl) ?_; dsimp only)); refine box_event ?hg (N := 3) ?hd (cs := #[.int .i64 a0, .int .i64 b0, .string c0]) (t := 23) ?hr ?_; (case hd => rfl); (case hg => rfl); (case hr => first | (go_simp; done) | (go_simp; rfl)); intro gp hg v1 hbox hb; have n0_ := Aside0.mk (by rw [hg]; exact below_size (by repeat (first | (with_reducible first | exact HB.out | apply below_alloc | apply pw_below_drewN | apply below_drew1) | exact HB.out)) : w.heap.size ≤ gp); have n1_ := Aside0.mk (below_step (by repeat (first | (with_reducible first | exact HB.out | apply below_alloc | apply pw_below_drewN | apply below_drew1) | exact HB.out)) hb); have n2_ := Aside0.mk hbox; clear HB; have GEgp := n0_; clear n0_; have HB := n1_; clear n1_; have BKgp := n2_; clear n2_; clear hb hbox hg; have hcz1 : v1.cell? ⟨gp, 0, none⟩ = some (.int .i64 a0) := (blk_cell BKgp.out 0).trans rfl; have hfz1 := blk_frozen BKgp.out 0; have hcz2 : v1.cell? ⟨gp, 1, none⟩ = some (.int .i64 b0) := (blk_cell BKgp.out 1).trans rfl; have hfz2 := blk_frozen BKgp.out 1; have hcz3 : v1.cell? ⟨gp, 2, none⟩ = some (.string c0) := (blk_cell BKgp.out 2).trans rfl; have hfz3 := blk_frozen BKgp.out 2) | ((with_reducible refine gate_dst (N := 4) rfl ?_); (try (refine gate_guard (by rfl) ?_; dsimp only)); refine box_event ?hg (N := 4) ?hd (cs := #[.int .i64 n0, .int .i64 n1, .int .i64 n2]) (t := 36) ?hr ?_; (case hd => rfl); (case hg => rfl); (case hr => first | (go_simp; done) | (go_simp; rfl)); intro gn hg v2 hbox hb; have n0_ := Aside0.mk (by rw [hg]; exact Nat.ne_of_lt (blk_lt (g := gp) (o := .cells #[.int .i64 a0, .int .i64 b0, .string c0] 23 (0, 0)) (by (with_reducible repeat (first | refine blk_drewN ?_ _ | refine blk_drew ?_ | refine blk_alloc ?_ _)); exact BKgp.out)) : gp ≠ gn); have n1_ := Aside0.mk (by rw [hg]; exact Nat.ne_of_gt (blk_lt (g := gp) (o := .cells #[.int .i64 a0, .int .i64 b0, .string c0] 23 (0, 0)) (by (with_reducible repeat (first | refine blk_drewN ?_ _ | refine blk_drew ?_ | refine blk_alloc ?_ _)); exact BKgp.out)) : gn ≠ gp); have n2_ := Aside0.mk (by rw [hg]; exact below_size (by repeat (first | (with_reducible first | exact HB.out | apply below_alloc | apply pw_below_drewN | apply below_drew1 | refine below_set ?_ GEgp.out) | exact HB.out)) : w.heap.size ≤ gn); have n3_ := Aside0.mk (blk_below (g := gp) (o := .cells #[.int .i64 a0, .int .i64 b0, .string c0] 23 (0, 0)) (by (with_reducible repeat (first | refine blk_drewN ?_ _ | refine blk_drew ?_ | refine blk_alloc ?_ _)); exact BKgp.out) hb); have n4_ := Aside0.mk (below_step (by repeat (first | (with_reducible first | exact HB.out | apply below_alloc | apply pw_below_drewN | apply below_drew1 | refine below_set ?_ GEgp.out) | exact HB.out)) hb); have n5_ := Aside0.mk hbox; clear BKgp; clear HB; have NBgp_gn := n0_; clear n0_; have NBgn_gp := n1_; clear n1_; have GEgn := n2_; clear n2_; have BKgp := n3_; clear n3_; have HB := n4_; clear n4_; have BKgn := n5_; clear n5_; clear hb hbox hg; have hnb4 := NBgp_gn.out; have hnc4 := NBgn_gp.out; have hcz5 : v2.cell? ⟨gp, 0, none⟩ = some (.int .i64 a0) := (blk_cell BKgp.out 0).trans rfl; have hfz5 := blk_frozen BKgp.out 0; have hcz6 : v2.cell? ⟨gp, 1, none⟩ = some (.int .i64 b0) := (blk_cell BKgp.out 1).trans rfl; have hfz6 := blk_frozen BKgp.out 1; have hcz7 : v2.cell? ⟨gp, 2, none⟩ = some (.string c0) := (blk_cell BKgp.out 2).trans rfl; have hfz7 := blk_frozen BKgp.out 2; have hcz8 : v2.cell? ⟨gn, 0, none⟩ = some (.int .i64 n0) := (blk_cell BKgn.out 0).trans rfl; have hfz8 := blk_frozen BKgn.out 0; have hcz9 : v2.cell? ⟨gn, 1, none⟩ = some (.int .i64 n1) := (blk_cell BKgn.out 1).trans rfl; have hfz9 := blk_frozen BKgn.out 1; have hcz10 : v2.cell? ⟨gn, 2, none⟩ = some (.int .i64 n2) := (blk_cell BKgn.out 2).trans rfl; have hfz10 := blk_frozen BKgn.out 2) | ((with_reducible refine gate_dst (N := 5) rfl ?_); (try (refine gate_guard (by rfl) ?_; dsimp only)); refine box_event ?hg (N := 5) ?hd (cs := #[.int .u8 (y0.toNat : Int), .int .u8 (y1.toNat : Int), .int .u8 (y2.toNat : Int), .int .u8 (y3.toNat : Int)]) (t := 37) ?hr ?_; (case hd => rfl); (case hg => rfl); (case hr => first | (go_simp; done) | (go_simp; rfl)); intro gy hg v3 hbox hb; have n0_ := Aside0.mk (by rw [hg]; exact Nat.ne_of_lt (blk_lt (g := gp) (o := .cells #[.int .i64 a0, .int .i64 b0, .string c0] 23 (0, 0)) (by (with_reducible repeat (first | refine blk_drewN ?_ _ | refine blk_drew ?_ | refine blk_alloc ?_ _)); exact BKgp.out)) : gp ≠ gy); have n1_ := Aside0.mk (by rw [hg]; exact Nat.ne_of_gt (blk_lt (g := gp) (o := .cells #[.int .i64 a0, .int .i64 b0, .string c0] 23 (0, 0)) (by (with_reducible repeat (first | refine blk_drewN ?_ _ | refine blk_drew ?_ | refine blk_alloc ?_ _)); exact BKgp.out)) : gy ≠ gp); have n2_ := Aside0.mk (by rw [hg]; exact Nat.ne_of_lt (blk_lt (g := gn) (o := .cells #[.int .i64 n0, .int .i64 n1, .int .i64 n2] 36 (0, 0)) (by (with_reducible repeat (first | refine blk_drewN ?_ _ | refine blk_drew ?_ | refine blk_alloc ?_ _)); exact BKgn.out)) : gn ≠ gy); have n3_ := Aside0.mk (by rw [hg]; exact Nat.ne_of_gt (blk_lt (g := gn) (o := .cells #[.int .i64 n0, .int .i64 n1, .int .i64 n2] 36 (0, 0)) (by (with_reducible repeat (first | refine blk_drewN ?_ _ | refine blk_drew ?_ | refine blk_alloc ?_ _)); exact BKgn.out)) : gy ≠ gn); have n4_ := Aside0.mk (by rw [hg]; exact below_size (by repeat (first | (with_reducible first | exact HB.out | apply below_alloc | apply pw_below_drewN | apply below_drew1 | refine below_set ?_ GEgp.out | refine below_set ?_ GEgn.out) | exact HB.out)) : w.heap.size ≤ gy); have n5_ := Aside0.mk (blk_below (g := gp) (o := .cells #[.int .i64 a0, .int .i64 b0, .string c0] 23 (0, 0)) (by (with_reducible repeat (first | refine blk_drewN ?_ _ | refine blk_drew ?_ | refine blk_alloc ?_ _)); exact BKgp.out) hb); have n6_ := Aside0.mk (blk_below (g := gn) (o := .cells #[.int .i64 n0, .int .i64 n1, .int .i64 n2] 36 (0, 0)) (by (with_reducible repeat (first | refine blk_drewN ?_ _ | refine blk_drew ?_ | refine blk_alloc ?_ _)); exact BKgn.out) hb); have n7_ := Aside0.mk (below_step (by repeat (first | (with_reducible first | exact HB.out | apply below_alloc | apply pw_below_drewN | apply below_drew1 | refine below_set ?_ GEgp.out | refine below_set ?_ GEgn.out) | exact HB.out)) hb); have n8_ := Aside0.mk hbox; clear BKgp; clear BKgn; clear HB; have NBgp_gy := n0_; clear n0_; have NBgy_gp := n1_; clear n1_; have NBgn_gy := n2_; clear n2_; have NBgy_gn := n3_; clear n3_; have GEgy := n4_; clear n4_; have BKgp := n5_; clear n5_; have BKgn := n6_; clear n6_; have HB := n7_; clear n7_; have BKgy := n8_; clear n8_; clear hb hbox hg; have hnb11 := NBgp_gy.out; have hnc11 := NBgy_gp.out; have hnb12 := NBgn_gy.out; have hnc12 := NBgy_gn.out; have hcz13 : v3.cell? ⟨gp, 0, none⟩ = some (.int .i64 a0) := (blk_cell BKgp.out 0).trans rfl; have hfz13 := blk_frozen BKgp.out 0; have hcz14 : v3.cell? ⟨gp, 1, none⟩ = some (.int .i64 b0) := (blk_cell BKgp.out 1).trans rfl; have hfz14 := blk_frozen BKgp.out 1; have hcz15 : v3.cell? ⟨gp, 2, none⟩ = some (.string c0) := (blk_cell BKgp.out 2).trans rfl; have hfz15 := blk_frozen BKgp.out 2; have hcz16 : v3.cell? ⟨gn, 0, none⟩ = some (.int .i64 n0) := (blk_cell BKgn.out 0).trans rfl; have hfz16 := blk_frozen BKgn.out 0; have hcz17 : v3.cell? ⟨gn, 1, none⟩ = some (.int .i64 n1) := (blk_cell BKgn.out 1).trans rfl; have hfz17 := blk_frozen BKgn.out 1; have hcz18 : v3.cell? ⟨gn, 2, none⟩ = some (.int .i64 n2) := (blk_cell BKgn.out 2).trans rfl; have hfz18 := blk_frozen BKgn.out 2; have hcz19 : v3.cell? ⟨gy, 0, none⟩ = some (.int .u8 (y0.toNat : Int)) := (blk_cell BKgy.out 0).trans rfl; have hfz19 := blk_frozen BKgy.out 0; have hcz20 : v3.cell? ⟨gy, 1, none⟩ = some (.int .u8 (y1.toNat : Int)) := (blk_cell BKgy.out 1).trans rfl; have hfz20 := blk_frozen BKgy.out 1; have hcz21 : v3.cell? ⟨gy, 2, none⟩ = some (.int .u8 (y2.toNat : Int)) := (blk_cell BKgy.out 2).trans rfl; have hfz21 := blk_frozen BKgy.out 2; have hcz22 : v3.cell? ⟨gy, 3, none⟩ = some (.int .u8 (y3.toNat : Int)) := (blk_cell BKgy.out 3).trans rfl; have hfz22 := blk_frozen BKgy.out 3))
    with_reducible refine (CP.out _ (Glob.below HG.out (by repeat (first | (with_reducible first | exact HB.out | apply below_alloc | apply pw_below_drewN | apply below_drew1 | refine below_set ?_ GEgp.out | refine below_set ?_ GEgn.out | refine below_set ?_ GEgy.out) | exact HB.out)))).mono ?_
    rintro e v4 ⟨rfl, hb⟩
    have n0_ := Aside0.mk (blk_below (g := gp) (o := .cells #[.int .i64 a0, .int .i64 b0, .string c0] 23 (0, 0)) (by (with_reducible repeat (first | refine blk_drewN ?_ _ | refine blk_drew ?_ | refine blk_alloc ?_ _)); exact BKgp.out) hb)
    have n1_ := Aside0.mk (blk_below (g := gn) (o := .cells #[.int .i64 n0, .int .i64 n1, .int .i64 n2] 36 (0, 0)) (by (with_reducible repeat (first | refine blk_drewN ?_ _ | refine blk_drew ?_ | refine blk_alloc ?_ _)); exact BKgn.out) hb)
    have n2_ := Aside0.mk (blk_below (g := gy) (o := .cells #[.int .u8 (y0.toNat : Int), .int .u8 (y1.toNat : Int), .int .u8 (y2.toNat : Int), .int .u8 (y3.toNat : Int)] 37 (0, 0)) (by (with_reducible repeat (first | refine blk_drewN ?_ _ | refine blk_drew ?_ | refine blk_alloc ?_ _)); exact BKgy.out) hb)
    have n3_ := Aside0.mk (below_step (by repeat (first | (with_reducible first | exact HB.out | apply below_alloc | apply pw_below_drewN | apply below_drew1 | refine below_set ?_ GEgp.out | refine below_set ?_ GEgn.out | refine below_set ?_ GEgy.out) | exact HB.out)) hb)
    clear BKgp
    clear BKgn
    clear BKgy
    clear HB
    have BKgp := n0_; clear n0_
    have BKgn := n1_; clear n1_
    have BKgy := n2_; clear n2_
    have HB := n3_; clear n3_
    (try clear hb)
    have hcz23 : v4.cell? ⟨gp, 0, none⟩ = some (.int .i64 a0) := (blk_cell BKgp.out 0).trans rfl
    have hfz23 := blk_frozen BKgp.out 0
    have hcz24 : v4.cell? ⟨gp, 1, none⟩ = some (.int .i64 b0) := (blk_cell BKgp.out 1).trans rfl
    have hfz24 := blk_frozen BKgp.out 1
    have hcz25 : v4.cell? ⟨gp, 2, none⟩ = some (.string c0) := (blk_cell BKgp.out 2).trans rfl
    have hfz25 := blk_frozen BKgp.out 2
    have hcz26 : v4.cell? ⟨gn, 0, none⟩ = some (.int .i64 n0) := (blk_cell BKgn.out 0).trans rfl
    have hfz26 := blk_frozen BKgn.out 0
    have hcz27 : v4.cell? ⟨gn, 1, none⟩ = some (.int .i64 n1) := (blk_cell BKgn.out 1).trans rfl
    have hfz27 := blk_frozen BKgn.out 1
    have hcz28 : v4.cell? ⟨gn, 2, none⟩ = some (.int .i64 n2) := (blk_cell BKgn.out 2).trans rfl
    have hfz28 := blk_frozen BKgn.out 2
    have hcz29 : v4.cell? ⟨gy, 0, none⟩ = some (.int .u8 (y0.toNat : Int)) := (blk_cell BKgy.out 0).trans rfl
    have hfz29 := blk_frozen BKgy.out 0
    have hcz30 : v4.cell? ⟨gy, 1, none⟩ = some (.int .u8 (y1.toNat : Int)) := (blk_cell BKgy.out 1).trans rfl
    have hfz30 := blk_frozen BKgy.out 1
    have hcz31 : v4.cell? ⟨gy, 2, none⟩ = some (.int .u8 (y2.toNat : Int)) := (blk_cell BKgy.out 2).trans rfl
    have hfz31 := blk_frozen BKgy.out 2
    have hcz32 : v4.cell? ⟨gy, 3, none⟩ = some (.int .u8 (y3.toNat : Int)) := (blk_cell BKgy.out 3).trans rfl
    have hfz32 := blk_frozen BKgy.out 3
    go_wp2_with fail
    with_reducible refine (CW.out _ (Glob.below HG.out (by repeat (first | (with_reducible first | exact HB.out | apply below_alloc | apply pw_below_drewN | apply below_drew1 | refine below_set ?_ GEgp.out | refine below_set ?_ GEgn.out | refine below_set ?_ GEgy.out) | exact HB.out)))).mono ?_
    rintro e v5 ⟨rfl, hb⟩
    have n0_ := Aside0.mk (blk_below (g := gp) (o := .cells #[.int .i64 a0, .int .i64 b0, .string c0] 23 (0, 0)) (by (with_reducible repeat (first | refine blk_drewN ?_ _ | refine blk_drew ?_ | refine blk_alloc ?_ _)); exact BKgp.out) hb)
    have n1_ := Aside0.mk (blk_below (g := gn) (o := .cells #[.int .i64 n0, .int .i64 n1, .int .i64 n2] 36 (0, 0)) (by (with_reducible repeat (first | refine blk_drewN ?_ _ | refine blk_drew ?_ | refine blk_alloc ?_ _)); exact BKgn.out) hb)
    have n2_ := Aside0.mk (blk_below (g := gy) (o := .cells #[.int .u8 (y0.toNat : Int), .int .u8 (y1.toNat : Int), .int .u8 (y2.toNat : Int), .int .u8 (y3.toNat : Int)] 37 (0, 0)) (by (with_reducible repeat (first | refine blk_drewN ?_ _ | refine blk_drew ?_ | refine blk_alloc ?_ _)); exact BKgy.out) hb)
    have n3_ := Aside0.mk (below_step (by repeat (first | (with_reducible first | exact HB.out | apply below_alloc | apply pw_below_drewN | apply below_drew1 | refine below_set ?_ GEgp.out | refine below_set ?_ GEgn.out | refine below_set ?_ GEgy.out) | exact HB.out)) hb)
    clear BKgp
    clear BKgn
    clear BKgy
    clear HB
    have BKgp := n0_; clear n0_
    have BKgn := n1_; clear n1_
    have BKgy := n2_; clear n2_
    have HB := n3_; clear n3_
    (try clear hb)
    have hcz33 : v5.cell? ⟨gp, 0, none⟩ = some (.int .i64 a0) := (blk_cell BKgp.out 0).trans rfl
    have hfz33 := blk_frozen BKgp.out 0
    have hcz34 : v5.cell? ⟨gp, 1, none⟩ = some (.int .i64 b0) := (blk_cell BKgp.out 1).trans rfl
    have hfz34 := blk_frozen BKgp.out 1
    have hcz35 : v5.cell? ⟨gp, 2, none⟩ = some (.string c0) := (blk_cell BKgp.out 2).trans rfl
    have hfz35 := blk_frozen BKgp.out 2
    have hcz36 : v5.cell? ⟨gn, 0, none⟩ = some (.int .i64 n0) := (blk_cell BKgn.out 0).trans rfl
    have hfz36 := blk_frozen BKgn.out 0
    have hcz37 : v5.cell? ⟨gn, 1, none⟩ = some (.int .i64 n1) := (blk_cell BKgn.out 1).trans rfl
    have hfz37 := blk_frozen BKgn.out 1
    have hcz38 : v5.cell? ⟨gn, 2, none⟩ = some (.int .i64 n2) := (blk_cell BKgn.out 2).trans rfl
    have hfz38 := blk_frozen BKgn.out 2
    have hcz39 : v5.cell? ⟨gy, 0, none⟩ = some (.int .u8 (y0.toNat : Int)) := (blk_cell BKgy.out 0).trans rfl
    have hfz39 := blk_frozen BKgy.out 0
    have hcz40 : v5.cell? ⟨gy, 1, none⟩ = some (.int .u8 (y1.toNat : Int)) := (blk_cell BKgy.out 1).trans rfl
    have hfz40 := blk_frozen BKgy.out 1
    have hcz41 : v5.cell? ⟨gy, 2, none⟩ = some (.int .u8 (y2.toNat : Int)) := (blk_cell BKgy.out 2).trans rfl
    have hfz41 := blk_frozen BKgy.out 2
    have hcz42 : v5.cell? ⟨gy, 3, none⟩ = some (.int .u8 (y3.toNat : Int)) := (blk_cell BKgy.out 3).trans rfl
    have hfz42 := blk_frozen BKgy.out 3
    go_wp2_with fail
    go_ret
    exact ⟨rfl, by repeat (first | (with_reducible first | exact HB.out | apply below_alloc | apply pw_below_drewN | apply below_drew1 | refine below_set ?_ GEgp.out | refine below_set ?_ GEgn.out | refine below_set ?_ GEgy.out) | exact HB.out)⟩
  · obtain ⟨S, hS⟩ : ∃ S, S = strOfNums (fullL a0 b0 n0 c0) := ⟨_, rfl⟩
    have hpS : isPage S n0 a0 b0 c0 := ⟨ho, hS⟩
    have CP := Lib.hid fun W hG => put_c a0 b0 c0 n0 W hG
    rw [putR, if_pos ho, ← hS] at CP; dsimp only at CP
    have CW := Lib.hid wakes_c
    have CG0 := Lib.hid fun W hG => get_c S n0 W hG
    rw [get_pos hpS] at CG0; dsimp only at CG0
    have CG1 := Lib.hid fun W hG => get_c S n1 W hG
    have CR := Lib.hid fun W hG => right_c S W hG
    rw [decide_eq_true (page_right hpS)] at CR
    have hsz := page_size hpS
    have HpS := Lib.hid hpS
    clear hS ho
    by_cases h1 : n1 = n0
    · skip
      have hg1 := (congrArg (getR S) h1).trans (get_pos hpS)
      rw [hg1] at CG1; dsimp only at CG1; clear hg1
      have hn1 : (n1 == n0) = true := by simp [h1]
      clear h1 hpS
      go_enter Tryd.func4, Tryd.ntmps4
      go_wp2_with (first | ((with_reducible refine gate_dst (N := 3) rfl ?_); (try (refine gate_guard (by rfl) ?_; dsimp only)); refine box_event ?hg (N := 3) ?hd (cs := #[.int .i64 a0, .int .i64 b0, .string c0]) (t := 23) ?hr ?_; (case hd => rfl); (case hg => rfl); (case hr => first | (go_simp; done) | (go_simp; rfl)); intro gp hg v1 hbox hb; have n0_ := Aside0.mk (by rw [hg]; exact below_size (by repeat (first | (with_reducible first | exact HB.out | apply below_alloc | apply pw_below_drewN | apply below_drew1) | exact HB.out)) : w.heap.size ≤ gp); have n1_ := Aside0.mk (below_step (by repeat (first | (with_reducible first | exact HB.out | apply below_alloc | apply pw_below_drewN | apply below_drew1) | exact HB.out)) hb); have n2_ := Aside0.mk hbox; clear HB; have GEgp := n0_; clear n0_; have HB := n1_; clear n1_; have BKgp := n2_; clear n2_; clear hb hbox hg; have hcz1 : v1.cell? ⟨gp, 0, none⟩ = some (.int .i64 a0) := (blk_cell BKgp.out 0).trans rfl; have hfz1 := blk_frozen BKgp.out 0; have hcz2 : v1.cell? ⟨gp, 1, none⟩ = some (.int .i64 b0) := (blk_cell BKgp.out 1).trans rfl; have hfz2 := blk_frozen BKgp.out 1; have hcz3 : v1.cell? ⟨gp, 2, none⟩ = some (.string c0) := (blk_cell BKgp.out 2).trans rfl; have hfz3 := blk_frozen BKgp.out 2) | ((with_reducible refine gate_dst (N := 4) rfl ?_); (try (refine gate_guard (by rfl) ?_; dsimp only)); refine box_event ?hg (N := 4) ?hd (cs := #[.int .i64 n0, .int .i64 n1, .int .i64 n2]) (t := 36) ?hr ?_; (case hd => rfl); (case hg => rfl); (case hr => first | (go_simp; done) | (go_simp; rfl)); intro gn hg v2 hbox hb; have n0_ := Aside0.mk (by rw [hg]; exact Nat.ne_of_lt (blk_lt (g := gp) (o := .cells #[.int .i64 a0, .int .i64 b0, .string c0] 23 (0, 0)) (by (with_reducible repeat (first | refine blk_drewN ?_ _ | refine blk_drew ?_ | refine blk_alloc ?_ _)); exact BKgp.out)) : gp ≠ gn); have n1_ := Aside0.mk (by rw [hg]; exact Nat.ne_of_gt (blk_lt (g := gp) (o := .cells #[.int .i64 a0, .int .i64 b0, .string c0] 23 (0, 0)) (by (with_reducible repeat (first | refine blk_drewN ?_ _ | refine blk_drew ?_ | refine blk_alloc ?_ _)); exact BKgp.out)) : gn ≠ gp); have n2_ := Aside0.mk (by rw [hg]; exact below_size (by repeat (first | (with_reducible first | exact HB.out | apply below_alloc | apply pw_below_drewN | apply below_drew1 | refine below_set ?_ GEgp.out) | exact HB.out)) : w.heap.size ≤ gn); have n3_ := Aside0.mk (blk_below (g := gp) (o := .cells #[.int .i64 a0, .int .i64 b0, .string c0] 23 (0, 0)) (by (with_reducible repeat (first | refine blk_drewN ?_ _ | refine blk_drew ?_ | refine blk_alloc ?_ _)); exact BKgp.out) hb); have n4_ := Aside0.mk (below_step (by repeat (first | (with_reducible first | exact HB.out | apply below_alloc | apply pw_below_drewN | apply below_drew1 | refine below_set ?_ GEgp.out) | exact HB.out)) hb); have n5_ := Aside0.mk hbox; clear BKgp; clear HB; have NBgp_gn := n0_; clear n0_; have NBgn_gp := n1_; clear n1_; have GEgn := n2_; clear n2_; have BKgp := n3_; clear n3_; have HB := n4_; clear n4_; have BKgn := n5_; clear n5_; clear hb hbox hg; have hnb4 := NBgp_gn.out; have hnc4 := NBgn_gp.out; have hcz5 : v2.cell? ⟨gp, 0, none⟩ = some (.int .i64 a0) := (blk_cell BKgp.out 0).trans rfl; have hfz5 := blk_frozen BKgp.out 0; have hcz6 : v2.cell? ⟨gp, 1, none⟩ = some (.int .i64 b0) := (blk_cell BKgp.out 1).trans rfl; have hfz6 := blk_frozen BKgp.out 1; have hcz7 : v2.cell? ⟨gp, 2, none⟩ = some (.string c0) := (blk_cell BKgp.out 2).trans rfl; have hfz7 := blk_frozen BKgp.out 2; have hcz8 : v2.cell? ⟨gn, 0, none⟩ = some (.int .i64 n0) := (blk_cell BKgn.out 0).trans rfl; have hfz8 := blk_frozen BKgn.out 0; have hcz9 : v2.cell? ⟨gn, 1, none⟩ = some (.int .i64 n1) := (blk_cell BKgn.out 1).trans rfl; have hfz9 := blk_frozen BKgn.out 1; have hcz10 : v2.cell? ⟨gn, 2, none⟩ = some (.int .i64 n2) := (blk_cell BKgn.out 2).trans rfl; have hfz10 := blk_frozen BKgn.out 2) | ((with_reducible refine gate_dst (N := 5) rfl ?_); (try (refine gate_guard (by rfl) ?_; dsimp only)); refine box_event ?hg (N := 5) ?hd (cs := #[.int .u8 (y0.toNat : Int), .int .u8 (y1.toNat : Int), .int .u8 (y2.toNat : Int), .int .u8 (y3.toNat : Int)]) (t := 37) ?hr ?_; (case hd => rfl); (case hg => rfl); (case hr => first | (go_simp; done) | (go_simp; rfl)); intro gy hg v3 hbox hb; have n0_ := Aside0.mk (by rw [hg]; exact Nat.ne_of_lt (blk_lt (g := gp) (o := .cells #[.int .i64 a0, .int .i64 b0, .string c0] 23 (0, 0)) (by (with_reducible repeat (first | refine blk_drewN ?_ _ | refine blk_drew ?_ | refine blk_alloc ?_ _)); exact BKgp.out)) : gp ≠ gy); have n1_ := Aside0.mk (by rw [hg]; exact Nat.ne_of_gt (blk_lt (g := gp) (o := .cells #[.int .i64 a0, .int .i64 b0, .string c0] 23 (0, 0)) (by (with_reducible repeat (first | refine blk_drewN ?_ _ | refine blk_drew ?_ | refine blk_alloc ?_ _)); exact BKgp.out)) : gy ≠ gp); have n2_ := Aside0.mk (by rw [hg]; exact Nat.ne_of_lt (blk_lt (g := gn) (o := .cells #[.int .i64 n0, .int .i64 n1, .int .i64 n2] 36 (0, 0)) (by (with_reducible repeat (first | refine blk_drewN ?_ _ | refine blk_drew ?_ | refine blk_alloc ?_ _)); exact BKgn.out)) : gn ≠ gy); have n3_ := Aside0.mk (by rw [hg]; exact Nat.ne_of_gt (blk_lt (g := gn) (o := .cells #[.int .i64 n0, .int .i64 n1, .int .i64 n2] 36 (0, 0)) (by (with_reducible repeat (first | refine blk_drewN ?_ _ | refine blk_drew ?_ | refine blk_alloc ?_ _)); exact BKgn.out)) : gy ≠ gn); have n4_ := Aside0.mk (by rw [hg]; exact below_size (by repeat (first | (with_reducible first | exact HB.out | apply below_alloc | apply pw_below_drewN | apply below_drew1 | refine below_set ?_ GEgp.out | refine below_set ?_ GEgn.out) | exact HB.out)) : w.heap.size ≤ gy); have n5_ := Aside0.mk (blk_below (g := gp) (o := .cells #[.int .i64 a0, .int .i64 b0, .string c0] 23 (0, 0)) (by (with_reducible repeat (first | refine blk_drewN ?_ _ | refine blk_drew ?_ | refine blk_alloc ?_ _)); exact BKgp.out) hb); have n6_ := Aside0.mk (blk_below (g := gn) (o := .cells #[.int .i64 n0, .int .i64 n1, .int .i64 n2] 36 (0, 0)) (by (with_reducible repeat (first | refine blk_drewN ?_ _ | refine blk_drew ?_ | refine blk_alloc ?_ _)); exact BKgn.out) hb); have n7_ := Aside0.mk (below_step (by repeat (first | (with_reducible first | exact HB.out | apply below_alloc | apply pw_below_drewN | apply below_drew1 | refine below_set ?_ GEgp.out | refine below_set ?_ GEgn.out) | exact HB.out)) hb); have n8_ := Aside0.mk hbox; clear BKgp; clear BKgn; clear HB; have NBgp_gy := n0_; clear n0_; have NBgy_gp := n1_; clear n1_; have NBgn_gy := n2_; clear n2_; have NBgy_gn := n3_; clear n3_; have GEgy := n4_; clear n4_; have BKgp := n5_; clear n5_; have BKgn := n6_; clear n6_; have HB := n7_; clear n7_; have BKgy := n8_; clear n8_; clear hb hbox hg; have hnb11 := NBgp_gy.out; have hnc11 := NBgy_gp.out; have hnb12 := NBgn_gy.out; have hnc12 := NBgy_gn.out; have hcz13 : v3.cell? ⟨gp, 0, none⟩ = some (.int .i64 a0) := (blk_cell BKgp.out 0).trans rfl; have hfz13 := blk_frozen BKgp.out 0; have hcz14 : v3.cell? ⟨gp, 1, none⟩ = some (.int .i64 b0) := (blk_cell BKgp.out 1).trans rfl; have hfz14 := blk_frozen BKgp.out 1; have hcz15 : v3.cell? ⟨gp, 2, none⟩ = some (.string c0) := (blk_cell BKgp.out 2).trans rfl; have hfz15 := blk_frozen BKgp.out 2; have hcz16 : v3.cell? ⟨gn, 0, none⟩ = some (.int .i64 n0) := (blk_cell BKgn.out 0).trans rfl; have hfz16 := blk_frozen BKgn.out 0; have hcz17 : v3.cell? ⟨gn, 1, none⟩ = some (.int .i64 n1) := (blk_cell BKgn.out 1).trans rfl; have hfz17 := blk_frozen BKgn.out 1; have hcz18 : v3.cell? ⟨gn, 2, none⟩ = some (.int .i64 n2) := (blk_cell BKgn.out 2).trans rfl; have hfz18 := blk_frozen BKgn.out 2; have hcz19 : v3.cell? ⟨gy, 0, none⟩ = some (.int .u8 (y0.toNat : Int)) := (blk_cell BKgy.out 0).trans rfl; have hfz19 := blk_frozen BKgy.out 0; have hcz20 : v3.cell? ⟨gy, 1, none⟩ = some (.int .u8 (y1.toNat : Int)) := (blk_cell BKgy.out 1).trans rfl; have hfz20 := blk_frozen BKgy.out 1; have hcz21 : v3.cell? ⟨gy, 2, none⟩ = some (.int .u8 (y2.toNat : Int)) := (blk_cell BKgy.out 2).trans rfl; have hfz21 := blk_frozen BKgy.out 2; have hcz22 : v3.cell? ⟨gy, 3, none⟩ = some (.int .u8 (y3.toNat : Int)) := (blk_cell BKgy.out 3).trans rfl; have hfz22 := blk_frozen BKgy.out 3))
      with_reducible refine (CP.out _ (Glob.below HG.out (by repeat (first | (with_reducible first | exact HB.out | apply below_alloc | apply pw_below_drewN | apply below_drew1 | refine below_set ?_ GEgp.out | refine below_set ?_ GEgn.out | refine below_set ?_ GEgy.out) | exact HB.out)))).mono ?_
      rintro e v4 ⟨rfl, hb⟩
      have n0_ := Aside0.mk (blk_below (g := gp) (o := .cells #[.int .i64 a0, .int .i64 b0, .string c0] 23 (0, 0)) (by (with_reducible repeat (first | refine blk_drewN ?_ _ | refine blk_drew ?_ | refine blk_alloc ?_ _)); exact BKgp.out) hb)
      have n1_ := Aside0.mk (blk_below (g := gn) (o := .cells #[.int .i64 n0, .int .i64 n1, .int .i64 n2] 36 (0, 0)) (by (with_reducible repeat (first | refine blk_drewN ?_ _ | refine blk_drew ?_ | refine blk_alloc ?_ _)); exact BKgn.out) hb)
      have n2_ := Aside0.mk (blk_below (g := gy) (o := .cells #[.int .u8 (y0.toNat : Int), .int .u8 (y1.toNat : Int), .int .u8 (y2.toNat : Int), .int .u8 (y3.toNat : Int)] 37 (0, 0)) (by (with_reducible repeat (first | refine blk_drewN ?_ _ | refine blk_drew ?_ | refine blk_alloc ?_ _)); exact BKgy.out) hb)
      have n3_ := Aside0.mk (below_step (by repeat (first | (with_reducible first | exact HB.out | apply below_alloc | apply pw_below_drewN | apply below_drew1 | refine below_set ?_ GEgp.out | refine below_set ?_ GEgn.out | refine below_set ?_ GEgy.out) | exact HB.out)) hb)
      clear BKgp
      clear BKgn
      clear BKgy
      clear HB
      have BKgp := n0_; clear n0_
      have BKgn := n1_; clear n1_
      have BKgy := n2_; clear n2_
      have HB := n3_; clear n3_
      (try clear hb)
      have hcz23 : v4.cell? ⟨gp, 0, none⟩ = some (.int .i64 a0) := (blk_cell BKgp.out 0).trans rfl
      have hfz23 := blk_frozen BKgp.out 0
      have hcz24 : v4.cell? ⟨gp, 1, none⟩ = some (.int .i64 b0) := (blk_cell BKgp.out 1).trans rfl
      have hfz24 := blk_frozen BKgp.out 1
      have hcz25 : v4.cell? ⟨gp, 2, none⟩ = some (.string c0) := (blk_cell BKgp.out 2).trans rfl
      have hfz25 := blk_frozen BKgp.out 2
      have hcz26 : v4.cell? ⟨gn, 0, none⟩ = some (.int .i64 n0) := (blk_cell BKgn.out 0).trans rfl
      have hfz26 := blk_frozen BKgn.out 0
      have hcz27 : v4.cell? ⟨gn, 1, none⟩ = some (.int .i64 n1) := (blk_cell BKgn.out 1).trans rfl
      have hfz27 := blk_frozen BKgn.out 1
      have hcz28 : v4.cell? ⟨gn, 2, none⟩ = some (.int .i64 n2) := (blk_cell BKgn.out 2).trans rfl
      have hfz28 := blk_frozen BKgn.out 2
      have hcz29 : v4.cell? ⟨gy, 0, none⟩ = some (.int .u8 (y0.toNat : Int)) := (blk_cell BKgy.out 0).trans rfl
      have hfz29 := blk_frozen BKgy.out 0
      have hcz30 : v4.cell? ⟨gy, 1, none⟩ = some (.int .u8 (y1.toNat : Int)) := (blk_cell BKgy.out 1).trans rfl
      have hfz30 := blk_frozen BKgy.out 1
      have hcz31 : v4.cell? ⟨gy, 2, none⟩ = some (.int .u8 (y2.toNat : Int)) := (blk_cell BKgy.out 2).trans rfl
      have hfz31 := blk_frozen BKgy.out 2
      have hcz32 : v4.cell? ⟨gy, 3, none⟩ = some (.int .u8 (y3.toNat : Int)) := (blk_cell BKgy.out 3).trans rfl
      have hfz32 := blk_frozen BKgy.out 3
      go_wp2_with fail
      with_reducible refine (CG0.out _ (Glob.below HG.out (by repeat (first | (with_reducible first | exact HB.out | apply below_alloc | apply pw_below_drewN | apply below_drew1 | refine below_set ?_ GEgp.out | refine below_set ?_ GEgn.out | refine below_set ?_ GEgy.out) | exact HB.out)))).mono ?_
      rintro e v5 ⟨rfl, hb⟩
      have n0_ := Aside0.mk (blk_below (g := gp) (o := .cells #[.int .i64 a0, .int .i64 b0, .string c0] 23 (0, 0)) (by (with_reducible repeat (first | refine blk_drewN ?_ _ | refine blk_drew ?_ | refine blk_alloc ?_ _)); exact BKgp.out) hb)
      have n1_ := Aside0.mk (blk_below (g := gn) (o := .cells #[.int .i64 n0, .int .i64 n1, .int .i64 n2] 36 (0, 0)) (by (with_reducible repeat (first | refine blk_drewN ?_ _ | refine blk_drew ?_ | refine blk_alloc ?_ _)); exact BKgn.out) hb)
      have n2_ := Aside0.mk (blk_below (g := gy) (o := .cells #[.int .u8 (y0.toNat : Int), .int .u8 (y1.toNat : Int), .int .u8 (y2.toNat : Int), .int .u8 (y3.toNat : Int)] 37 (0, 0)) (by (with_reducible repeat (first | refine blk_drewN ?_ _ | refine blk_drew ?_ | refine blk_alloc ?_ _)); exact BKgy.out) hb)
      have n3_ := Aside0.mk (below_step (by repeat (first | (with_reducible first | exact HB.out | apply below_alloc | apply pw_below_drewN | apply below_drew1 | refine below_set ?_ GEgp.out | refine below_set ?_ GEgn.out | refine below_set ?_ GEgy.out) | exact HB.out)) hb)
      clear BKgp
      clear BKgn
      clear BKgy
      clear HB
      have BKgp := n0_; clear n0_
      have BKgn := n1_; clear n1_
      have BKgy := n2_; clear n2_
      have HB := n3_; clear n3_
      (try clear hb)
      have hcz33 : v5.cell? ⟨gp, 0, none⟩ = some (.int .i64 a0) := (blk_cell BKgp.out 0).trans rfl
      have hfz33 := blk_frozen BKgp.out 0
      have hcz34 : v5.cell? ⟨gp, 1, none⟩ = some (.int .i64 b0) := (blk_cell BKgp.out 1).trans rfl
      have hfz34 := blk_frozen BKgp.out 1
      have hcz35 : v5.cell? ⟨gp, 2, none⟩ = some (.string c0) := (blk_cell BKgp.out 2).trans rfl
      have hfz35 := blk_frozen BKgp.out 2
      have hcz36 : v5.cell? ⟨gn, 0, none⟩ = some (.int .i64 n0) := (blk_cell BKgn.out 0).trans rfl
      have hfz36 := blk_frozen BKgn.out 0
      have hcz37 : v5.cell? ⟨gn, 1, none⟩ = some (.int .i64 n1) := (blk_cell BKgn.out 1).trans rfl
      have hfz37 := blk_frozen BKgn.out 1
      have hcz38 : v5.cell? ⟨gn, 2, none⟩ = some (.int .i64 n2) := (blk_cell BKgn.out 2).trans rfl
      have hfz38 := blk_frozen BKgn.out 2
      have hcz39 : v5.cell? ⟨gy, 0, none⟩ = some (.int .u8 (y0.toNat : Int)) := (blk_cell BKgy.out 0).trans rfl
      have hfz39 := blk_frozen BKgy.out 0
      have hcz40 : v5.cell? ⟨gy, 1, none⟩ = some (.int .u8 (y1.toNat : Int)) := (blk_cell BKgy.out 1).trans rfl
      have hfz40 := blk_frozen BKgy.out 1
      have hcz41 : v5.cell? ⟨gy, 2, none⟩ = some (.int .u8 (y2.toNat : Int)) := (blk_cell BKgy.out 2).trans rfl
      have hfz41 := blk_frozen BKgy.out 2
      have hcz42 : v5.cell? ⟨gy, 3, none⟩ = some (.int .u8 (y3.toNat : Int)) := (blk_cell BKgy.out 3).trans rfl
      have hfz42 := blk_frozen BKgy.out 3
      go_wp2_with ((with_reducible refine gate_dst (N := 9) rfl ?_); (try (refine gate_guard (by rfl) ?_; dsimp only)); refine box_event ?hg (N := 9) ?hd (cs := #[.int .i64 0, .int .i64 0, .string (⟨#[]⟩ : ByteArray)]) (t := 23) ?hr ?_; (case hd => rfl); (case hg => rfl); (case hr => first | (go_simp; done) | (go_simp; rfl)); intro gq hg v6 hbox hb; have n0_ := Aside0.mk (by rw [hg]; exact Nat.ne_of_lt (blk_lt (g := gp) (o := .cells #[.int .i64 a0, .int .i64 b0, .string c0] 23 (0, 0)) (by (with_reducible repeat (first | refine blk_drewN ?_ _ | refine blk_drew ?_ | refine blk_alloc ?_ _)); exact BKgp.out)) : gp ≠ gq); have n1_ := Aside0.mk (by rw [hg]; exact Nat.ne_of_gt (blk_lt (g := gp) (o := .cells #[.int .i64 a0, .int .i64 b0, .string c0] 23 (0, 0)) (by (with_reducible repeat (first | refine blk_drewN ?_ _ | refine blk_drew ?_ | refine blk_alloc ?_ _)); exact BKgp.out)) : gq ≠ gp); have n2_ := Aside0.mk (by rw [hg]; exact Nat.ne_of_lt (blk_lt (g := gn) (o := .cells #[.int .i64 n0, .int .i64 n1, .int .i64 n2] 36 (0, 0)) (by (with_reducible repeat (first | refine blk_drewN ?_ _ | refine blk_drew ?_ | refine blk_alloc ?_ _)); exact BKgn.out)) : gn ≠ gq); have n3_ := Aside0.mk (by rw [hg]; exact Nat.ne_of_gt (blk_lt (g := gn) (o := .cells #[.int .i64 n0, .int .i64 n1, .int .i64 n2] 36 (0, 0)) (by (with_reducible repeat (first | refine blk_drewN ?_ _ | refine blk_drew ?_ | refine blk_alloc ?_ _)); exact BKgn.out)) : gq ≠ gn); have n4_ := Aside0.mk (by rw [hg]; exact Nat.ne_of_lt (blk_lt (g := gy) (o := .cells #[.int .u8 (y0.toNat : Int), .int .u8 (y1.toNat : Int), .int .u8 (y2.toNat : Int), .int .u8 (y3.toNat : Int)] 37 (0, 0)) (by (with_reducible repeat (first | refine blk_drewN ?_ _ | refine blk_drew ?_ | refine blk_alloc ?_ _)); exact BKgy.out)) : gy ≠ gq); have n5_ := Aside0.mk (by rw [hg]; exact Nat.ne_of_gt (blk_lt (g := gy) (o := .cells #[.int .u8 (y0.toNat : Int), .int .u8 (y1.toNat : Int), .int .u8 (y2.toNat : Int), .int .u8 (y3.toNat : Int)] 37 (0, 0)) (by (with_reducible repeat (first | refine blk_drewN ?_ _ | refine blk_drew ?_ | refine blk_alloc ?_ _)); exact BKgy.out)) : gq ≠ gy); have n6_ := Aside0.mk (by rw [hg]; exact below_size (by repeat (first | (with_reducible first | exact HB.out | apply below_alloc | apply pw_below_drewN | apply below_drew1 | refine below_set ?_ GEgp.out | refine below_set ?_ GEgn.out | refine below_set ?_ GEgy.out) | exact HB.out)) : w.heap.size ≤ gq); have n7_ := Aside0.mk (blk_below (g := gp) (o := .cells #[.int .i64 a0, .int .i64 b0, .string c0] 23 (0, 0)) (by (with_reducible repeat (first | refine blk_drewN ?_ _ | refine blk_drew ?_ | refine blk_alloc ?_ _)); exact BKgp.out) hb); have n8_ := Aside0.mk (blk_below (g := gn) (o := .cells #[.int .i64 n0, .int .i64 n1, .int .i64 n2] 36 (0, 0)) (by (with_reducible repeat (first | refine blk_drewN ?_ _ | refine blk_drew ?_ | refine blk_alloc ?_ _)); exact BKgn.out) hb); have n9_ := Aside0.mk (blk_below (g := gy) (o := .cells #[.int .u8 (y0.toNat : Int), .int .u8 (y1.toNat : Int), .int .u8 (y2.toNat : Int), .int .u8 (y3.toNat : Int)] 37 (0, 0)) (by (with_reducible repeat (first | refine blk_drewN ?_ _ | refine blk_drew ?_ | refine blk_alloc ?_ _)); exact BKgy.out) hb); have n10_ := Aside0.mk (below_step (by repeat (first | (with_reducible first | exact HB.out | apply below_alloc | apply pw_below_drewN | apply below_drew1 | refine below_set ?_ GEgp.out | refine below_set ?_ GEgn.out | refine below_set ?_ GEgy.out) | exact HB.out)) hb); have n11_ := Aside0.mk hbox; clear BKgp; clear BKgn; clear BKgy; clear HB; have NBgp_gq := n0_; clear n0_; have NBgq_gp := n1_; clear n1_; have NBgn_gq := n2_; clear n2_; have NBgq_gn := n3_; clear n3_; have NBgy_gq := n4_; clear n4_; have NBgq_gy := n5_; clear n5_; have GEgq := n6_; clear n6_; have BKgp := n7_; clear n7_; have BKgn := n8_; clear n8_; have BKgy := n9_; clear n9_; have HB := n10_; clear n10_; have BKgq := n11_; clear n11_; clear hb hbox hg; have hnb43 := NBgp_gq.out; have hnc43 := NBgq_gp.out; have hnb44 := NBgn_gq.out; have hnc44 := NBgq_gn.out; have hnb45 := NBgy_gq.out; have hnc45 := NBgq_gy.out; have hcz46 : v6.cell? ⟨gp, 0, none⟩ = some (.int .i64 a0) := (blk_cell BKgp.out 0).trans rfl; have hfz46 := blk_frozen BKgp.out 0; have hcz47 : v6.cell? ⟨gp, 1, none⟩ = some (.int .i64 b0) := (blk_cell BKgp.out 1).trans rfl; have hfz47 := blk_frozen BKgp.out 1; have hcz48 : v6.cell? ⟨gp, 2, none⟩ = some (.string c0) := (blk_cell BKgp.out 2).trans rfl; have hfz48 := blk_frozen BKgp.out 2; have hcz49 : v6.cell? ⟨gn, 0, none⟩ = some (.int .i64 n0) := (blk_cell BKgn.out 0).trans rfl; have hfz49 := blk_frozen BKgn.out 0; have hcz50 : v6.cell? ⟨gn, 1, none⟩ = some (.int .i64 n1) := (blk_cell BKgn.out 1).trans rfl; have hfz50 := blk_frozen BKgn.out 1; have hcz51 : v6.cell? ⟨gn, 2, none⟩ = some (.int .i64 n2) := (blk_cell BKgn.out 2).trans rfl; have hfz51 := blk_frozen BKgn.out 2; have hcz52 : v6.cell? ⟨gy, 0, none⟩ = some (.int .u8 (y0.toNat : Int)) := (blk_cell BKgy.out 0).trans rfl; have hfz52 := blk_frozen BKgy.out 0; have hcz53 : v6.cell? ⟨gy, 1, none⟩ = some (.int .u8 (y1.toNat : Int)) := (blk_cell BKgy.out 1).trans rfl; have hfz53 := blk_frozen BKgy.out 1; have hcz54 : v6.cell? ⟨gy, 2, none⟩ = some (.int .u8 (y2.toNat : Int)) := (blk_cell BKgy.out 2).trans rfl; have hfz54 := blk_frozen BKgy.out 2; have hcz55 : v6.cell? ⟨gy, 3, none⟩ = some (.int .u8 (y3.toNat : Int)) := (blk_cell BKgy.out 3).trans rfl; have hfz55 := blk_frozen BKgy.out 3; have hcz56 : v6.cell? ⟨gq, 0, none⟩ = some (.int .i64 0) := (blk_cell BKgq.out 0).trans rfl; have hfz56 := blk_frozen BKgq.out 0; have hcz57 : v6.cell? ⟨gq, 1, none⟩ = some (.int .i64 0) := (blk_cell BKgq.out 1).trans rfl; have hfz57 := blk_frozen BKgq.out 1; have hcz58 : v6.cell? ⟨gq, 2, none⟩ = some (.string (⟨#[]⟩ : ByteArray)) := (blk_cell BKgq.out 2).trans rfl; have hfz58 := blk_frozen BKgq.out 2)
      with_reducible refine (CG1.out _ (Glob.below HG.out (by repeat (first | (with_reducible first | exact HB.out | apply below_alloc | apply pw_below_drewN | apply below_drew1 | refine below_set ?_ GEgp.out | refine below_set ?_ GEgn.out | refine below_set ?_ GEgy.out | refine below_set ?_ GEgq.out) | exact HB.out)))).mono ?_
      rintro e v7 ⟨rfl, hb⟩
      have n0_ := Aside0.mk (blk_below (g := gp) (o := .cells #[.int .i64 a0, .int .i64 b0, .string c0] 23 (0, 0)) (by (with_reducible repeat (first | refine blk_drewN ?_ _ | refine blk_drew ?_ | refine blk_alloc ?_ _)); refine blk_far ?_ NBgp_gq.out _; (with_reducible repeat (first | refine blk_drewN ?_ _ | refine blk_drew ?_ | refine blk_alloc ?_ _)); refine blk_far ?_ NBgp_gq.out _; (with_reducible repeat (first | refine blk_drewN ?_ _ | refine blk_drew ?_ | refine blk_alloc ?_ _)); refine blk_far ?_ NBgp_gq.out _; (with_reducible repeat (first | refine blk_drewN ?_ _ | refine blk_drew ?_ | refine blk_alloc ?_ _)); exact BKgp.out) hb)
      have n1_ := Aside0.mk (blk_below (g := gn) (o := .cells #[.int .i64 n0, .int .i64 n1, .int .i64 n2] 36 (0, 0)) (by (with_reducible repeat (first | refine blk_drewN ?_ _ | refine blk_drew ?_ | refine blk_alloc ?_ _)); refine blk_far ?_ NBgn_gq.out _; (with_reducible repeat (first | refine blk_drewN ?_ _ | refine blk_drew ?_ | refine blk_alloc ?_ _)); refine blk_far ?_ NBgn_gq.out _; (with_reducible repeat (first | refine blk_drewN ?_ _ | refine blk_drew ?_ | refine blk_alloc ?_ _)); refine blk_far ?_ NBgn_gq.out _; (with_reducible repeat (first | refine blk_drewN ?_ _ | refine blk_drew ?_ | refine blk_alloc ?_ _)); exact BKgn.out) hb)
      have n2_ := Aside0.mk (blk_below (g := gy) (o := .cells #[.int .u8 (y0.toNat : Int), .int .u8 (y1.toNat : Int), .int .u8 (y2.toNat : Int), .int .u8 (y3.toNat : Int)] 37 (0, 0)) (by (with_reducible repeat (first | refine blk_drewN ?_ _ | refine blk_drew ?_ | refine blk_alloc ?_ _)); refine blk_far ?_ NBgy_gq.out _; (with_reducible repeat (first | refine blk_drewN ?_ _ | refine blk_drew ?_ | refine blk_alloc ?_ _)); refine blk_far ?_ NBgy_gq.out _; (with_reducible repeat (first | refine blk_drewN ?_ _ | refine blk_drew ?_ | refine blk_alloc ?_ _)); refine blk_far ?_ NBgy_gq.out _; (with_reducible repeat (first | refine blk_drewN ?_ _ | refine blk_drew ?_ | refine blk_alloc ?_ _)); exact BKgy.out) hb)
      have n3_ := Aside0.mk (blk_below (g := gq) (o := .cells #[.int .i64 a0, .int .i64 b0, .string c0] 23 (0, 0)) (by (with_reducible repeat (first | refine blk_drewN ?_ _ | refine blk_drew ?_ | refine blk_alloc ?_ _)); refine blk_put (cs := #[.int .i64 a0, .int .i64 b0, .string (⟨#[]⟩ : ByteArray)]) ?_ 2 _ rfl; (with_reducible repeat (first | refine blk_drewN ?_ _ | refine blk_drew ?_ | refine blk_alloc ?_ _)); refine blk_put (cs := #[.int .i64 a0, .int .i64 0, .string (⟨#[]⟩ : ByteArray)]) ?_ 1 _ rfl; (with_reducible repeat (first | refine blk_drewN ?_ _ | refine blk_drew ?_ | refine blk_alloc ?_ _)); refine blk_put (cs := #[.int .i64 0, .int .i64 0, .string (⟨#[]⟩ : ByteArray)]) ?_ 0 _ rfl; (with_reducible repeat (first | refine blk_drewN ?_ _ | refine blk_drew ?_ | refine blk_alloc ?_ _)); exact BKgq.out) hb)
      have n4_ := Aside0.mk (below_step (by repeat (first | (with_reducible first | exact HB.out | apply below_alloc | apply pw_below_drewN | apply below_drew1 | refine below_set ?_ GEgp.out | refine below_set ?_ GEgn.out | refine below_set ?_ GEgy.out | refine below_set ?_ GEgq.out) | exact HB.out)) hb)
      clear BKgp
      clear BKgn
      clear BKgy
      clear BKgq
      clear HB
      have BKgp := n0_; clear n0_
      have BKgn := n1_; clear n1_
      have BKgy := n2_; clear n2_
      have BKgq := n3_; clear n3_
      have HB := n4_; clear n4_
      (try clear hb)
      have hcz59 : v7.cell? ⟨gp, 0, none⟩ = some (.int .i64 a0) := (blk_cell BKgp.out 0).trans rfl
      have hfz59 := blk_frozen BKgp.out 0
      have hcz60 : v7.cell? ⟨gp, 1, none⟩ = some (.int .i64 b0) := (blk_cell BKgp.out 1).trans rfl
      have hfz60 := blk_frozen BKgp.out 1
      have hcz61 : v7.cell? ⟨gp, 2, none⟩ = some (.string c0) := (blk_cell BKgp.out 2).trans rfl
      have hfz61 := blk_frozen BKgp.out 2
      have hcz62 : v7.cell? ⟨gn, 0, none⟩ = some (.int .i64 n0) := (blk_cell BKgn.out 0).trans rfl
      have hfz62 := blk_frozen BKgn.out 0
      have hcz63 : v7.cell? ⟨gn, 1, none⟩ = some (.int .i64 n1) := (blk_cell BKgn.out 1).trans rfl
      have hfz63 := blk_frozen BKgn.out 1
      have hcz64 : v7.cell? ⟨gn, 2, none⟩ = some (.int .i64 n2) := (blk_cell BKgn.out 2).trans rfl
      have hfz64 := blk_frozen BKgn.out 2
      have hcz65 : v7.cell? ⟨gy, 0, none⟩ = some (.int .u8 (y0.toNat : Int)) := (blk_cell BKgy.out 0).trans rfl
      have hfz65 := blk_frozen BKgy.out 0
      have hcz66 : v7.cell? ⟨gy, 1, none⟩ = some (.int .u8 (y1.toNat : Int)) := (blk_cell BKgy.out 1).trans rfl
      have hfz66 := blk_frozen BKgy.out 1
      have hcz67 : v7.cell? ⟨gy, 2, none⟩ = some (.int .u8 (y2.toNat : Int)) := (blk_cell BKgy.out 2).trans rfl
      have hfz67 := blk_frozen BKgy.out 2
      have hcz68 : v7.cell? ⟨gy, 3, none⟩ = some (.int .u8 (y3.toNat : Int)) := (blk_cell BKgy.out 3).trans rfl
      have hfz68 := blk_frozen BKgy.out 3
      have hcz69 : v7.cell? ⟨gq, 0, none⟩ = some (.int .i64 a0) := (blk_cell BKgq.out 0).trans rfl
      have hfz69 := blk_frozen BKgq.out 0
      have hcz70 : v7.cell? ⟨gq, 1, none⟩ = some (.int .i64 b0) := (blk_cell BKgq.out 1).trans rfl
      have hfz70 := blk_frozen BKgq.out 1
      have hcz71 : v7.cell? ⟨gq, 2, none⟩ = some (.string c0) := (blk_cell BKgq.out 2).trans rfl
      have hfz71 := blk_frozen BKgq.out 2
      go_wp2_with ((with_reducible refine gate_dst (N := 11) rfl ?_); (try (refine gate_guard (by rfl) ?_; dsimp only)); refine box_event ?hg (N := 11) ?hd (cs := #[.int .i64 0, .int .i64 0, .string (⟨#[]⟩ : ByteArray)]) (t := 23) ?hr ?_; (case hd => rfl); (case hg => rfl); (case hr => first | (go_simp; done) | (go_simp; rfl)); intro gr hg v8 hbox hb; have n0_ := Aside0.mk (by rw [hg]; exact Nat.ne_of_lt (blk_lt (g := gp) (o := .cells #[.int .i64 a0, .int .i64 b0, .string c0] 23 (0, 0)) (by (with_reducible repeat (first | refine blk_drewN ?_ _ | refine blk_drew ?_ | refine blk_alloc ?_ _)); exact BKgp.out)) : gp ≠ gr); have n1_ := Aside0.mk (by rw [hg]; exact Nat.ne_of_gt (blk_lt (g := gp) (o := .cells #[.int .i64 a0, .int .i64 b0, .string c0] 23 (0, 0)) (by (with_reducible repeat (first | refine blk_drewN ?_ _ | refine blk_drew ?_ | refine blk_alloc ?_ _)); exact BKgp.out)) : gr ≠ gp); have n2_ := Aside0.mk (by rw [hg]; exact Nat.ne_of_lt (blk_lt (g := gn) (o := .cells #[.int .i64 n0, .int .i64 n1, .int .i64 n2] 36 (0, 0)) (by (with_reducible repeat (first | refine blk_drewN ?_ _ | refine blk_drew ?_ | refine blk_alloc ?_ _)); exact BKgn.out)) : gn ≠ gr); have n3_ := Aside0.mk (by rw [hg]; exact Nat.ne_of_gt (blk_lt (g := gn) (o := .cells #[.int .i64 n0, .int .i64 n1, .int .i64 n2] 36 (0, 0)) (by (with_reducible repeat (first | refine blk_drewN ?_ _ | refine blk_drew ?_ | refine blk_alloc ?_ _)); exact BKgn.out)) : gr ≠ gn); have n4_ := Aside0.mk (by rw [hg]; exact Nat.ne_of_lt (blk_lt (g := gy) (o := .cells #[.int .u8 (y0.toNat : Int), .int .u8 (y1.toNat : Int), .int .u8 (y2.toNat : Int), .int .u8 (y3.toNat : Int)] 37 (0, 0)) (by (with_reducible repeat (first | refine blk_drewN ?_ _ | refine blk_drew ?_ | refine blk_alloc ?_ _)); exact BKgy.out)) : gy ≠ gr); have n5_ := Aside0.mk (by rw [hg]; exact Nat.ne_of_gt (blk_lt (g := gy) (o := .cells #[.int .u8 (y0.toNat : Int), .int .u8 (y1.toNat : Int), .int .u8 (y2.toNat : Int), .int .u8 (y3.toNat : Int)] 37 (0, 0)) (by (with_reducible repeat (first | refine blk_drewN ?_ _ | refine blk_drew ?_ | refine blk_alloc ?_ _)); exact BKgy.out)) : gr ≠ gy); have n6_ := Aside0.mk (by rw [hg]; exact Nat.ne_of_lt (blk_lt (g := gq) (o := .cells #[.int .i64 a0, .int .i64 b0, .string c0] 23 (0, 0)) (by (with_reducible repeat (first | refine blk_drewN ?_ _ | refine blk_drew ?_ | refine blk_alloc ?_ _)); exact BKgq.out)) : gq ≠ gr); have n7_ := Aside0.mk (by rw [hg]; exact Nat.ne_of_gt (blk_lt (g := gq) (o := .cells #[.int .i64 a0, .int .i64 b0, .string c0] 23 (0, 0)) (by (with_reducible repeat (first | refine blk_drewN ?_ _ | refine blk_drew ?_ | refine blk_alloc ?_ _)); exact BKgq.out)) : gr ≠ gq); have n8_ := Aside0.mk (by rw [hg]; exact below_size (by repeat (first | (with_reducible first | exact HB.out | apply below_alloc | apply pw_below_drewN | apply below_drew1 | refine below_set ?_ GEgp.out | refine below_set ?_ GEgn.out | refine below_set ?_ GEgy.out | refine below_set ?_ GEgq.out) | exact HB.out)) : w.heap.size ≤ gr); have n9_ := Aside0.mk (blk_below (g := gp) (o := .cells #[.int .i64 a0, .int .i64 b0, .string c0] 23 (0, 0)) (by (with_reducible repeat (first | refine blk_drewN ?_ _ | refine blk_drew ?_ | refine blk_alloc ?_ _)); exact BKgp.out) hb); have n10_ := Aside0.mk (blk_below (g := gn) (o := .cells #[.int .i64 n0, .int .i64 n1, .int .i64 n2] 36 (0, 0)) (by (with_reducible repeat (first | refine blk_drewN ?_ _ | refine blk_drew ?_ | refine blk_alloc ?_ _)); exact BKgn.out) hb); have n11_ := Aside0.mk (blk_below (g := gy) (o := .cells #[.int .u8 (y0.toNat : Int), .int .u8 (y1.toNat : Int), .int .u8 (y2.toNat : Int), .int .u8 (y3.toNat : Int)] 37 (0, 0)) (by (with_reducible repeat (first | refine blk_drewN ?_ _ | refine blk_drew ?_ | refine blk_alloc ?_ _)); exact BKgy.out) hb); have n12_ := Aside0.mk (blk_below (g := gq) (o := .cells #[.int .i64 a0, .int .i64 b0, .string c0] 23 (0, 0)) (by (with_reducible repeat (first | refine blk_drewN ?_ _ | refine blk_drew ?_ | refine blk_alloc ?_ _)); exact BKgq.out) hb); have n13_ := Aside0.mk (below_step (by repeat (first | (with_reducible first | exact HB.out | apply below_alloc | apply pw_below_drewN | apply below_drew1 | refine below_set ?_ GEgp.out | refine below_set ?_ GEgn.out | refine below_set ?_ GEgy.out | refine below_set ?_ GEgq.out) | exact HB.out)) hb); have n14_ := Aside0.mk hbox; clear BKgp; clear BKgn; clear BKgy; clear BKgq; clear HB; have NBgp_gr := n0_; clear n0_; have NBgr_gp := n1_; clear n1_; have NBgn_gr := n2_; clear n2_; have NBgr_gn := n3_; clear n3_; have NBgy_gr := n4_; clear n4_; have NBgr_gy := n5_; clear n5_; have NBgq_gr := n6_; clear n6_; have NBgr_gq := n7_; clear n7_; have GEgr := n8_; clear n8_; have BKgp := n9_; clear n9_; have BKgn := n10_; clear n10_; have BKgy := n11_; clear n11_; have BKgq := n12_; clear n12_; have HB := n13_; clear n13_; have BKgr := n14_; clear n14_; clear hb hbox hg; have hnb72 := NBgp_gr.out; have hnc72 := NBgr_gp.out; have hnb73 := NBgn_gr.out; have hnc73 := NBgr_gn.out; have hnb74 := NBgy_gr.out; have hnc74 := NBgr_gy.out; have hnb75 := NBgq_gr.out; have hnc75 := NBgr_gq.out; have hcz76 : v8.cell? ⟨gp, 0, none⟩ = some (.int .i64 a0) := (blk_cell BKgp.out 0).trans rfl; have hfz76 := blk_frozen BKgp.out 0; have hcz77 : v8.cell? ⟨gp, 1, none⟩ = some (.int .i64 b0) := (blk_cell BKgp.out 1).trans rfl; have hfz77 := blk_frozen BKgp.out 1; have hcz78 : v8.cell? ⟨gp, 2, none⟩ = some (.string c0) := (blk_cell BKgp.out 2).trans rfl; have hfz78 := blk_frozen BKgp.out 2; have hcz79 : v8.cell? ⟨gn, 0, none⟩ = some (.int .i64 n0) := (blk_cell BKgn.out 0).trans rfl; have hfz79 := blk_frozen BKgn.out 0; have hcz80 : v8.cell? ⟨gn, 1, none⟩ = some (.int .i64 n1) := (blk_cell BKgn.out 1).trans rfl; have hfz80 := blk_frozen BKgn.out 1; have hcz81 : v8.cell? ⟨gn, 2, none⟩ = some (.int .i64 n2) := (blk_cell BKgn.out 2).trans rfl; have hfz81 := blk_frozen BKgn.out 2; have hcz82 : v8.cell? ⟨gy, 0, none⟩ = some (.int .u8 (y0.toNat : Int)) := (blk_cell BKgy.out 0).trans rfl; have hfz82 := blk_frozen BKgy.out 0; have hcz83 : v8.cell? ⟨gy, 1, none⟩ = some (.int .u8 (y1.toNat : Int)) := (blk_cell BKgy.out 1).trans rfl; have hfz83 := blk_frozen BKgy.out 1; have hcz84 : v8.cell? ⟨gy, 2, none⟩ = some (.int .u8 (y2.toNat : Int)) := (blk_cell BKgy.out 2).trans rfl; have hfz84 := blk_frozen BKgy.out 2; have hcz85 : v8.cell? ⟨gy, 3, none⟩ = some (.int .u8 (y3.toNat : Int)) := (blk_cell BKgy.out 3).trans rfl; have hfz85 := blk_frozen BKgy.out 3; have hcz86 : v8.cell? ⟨gq, 0, none⟩ = some (.int .i64 a0) := (blk_cell BKgq.out 0).trans rfl; have hfz86 := blk_frozen BKgq.out 0; have hcz87 : v8.cell? ⟨gq, 1, none⟩ = some (.int .i64 b0) := (blk_cell BKgq.out 1).trans rfl; have hfz87 := blk_frozen BKgq.out 1; have hcz88 : v8.cell? ⟨gq, 2, none⟩ = some (.string c0) := (blk_cell BKgq.out 2).trans rfl; have hfz88 := blk_frozen BKgq.out 2; have hcz89 : v8.cell? ⟨gr, 0, none⟩ = some (.int .i64 0) := (blk_cell BKgr.out 0).trans rfl; have hfz89 := blk_frozen BKgr.out 0; have hcz90 : v8.cell? ⟨gr, 1, none⟩ = some (.int .i64 0) := (blk_cell BKgr.out 1).trans rfl; have hfz90 := blk_frozen BKgr.out 1; have hcz91 : v8.cell? ⟨gr, 2, none⟩ = some (.string (⟨#[]⟩ : ByteArray)) := (blk_cell BKgr.out 2).trans rfl; have hfz91 := blk_frozen BKgr.out 2)
      with_reducible refine (CR.out _ (Glob.below HG.out (by repeat (first | (with_reducible first | exact HB.out | apply below_alloc | apply pw_below_drewN | apply below_drew1 | refine below_set ?_ GEgp.out | refine below_set ?_ GEgn.out | refine below_set ?_ GEgy.out | refine below_set ?_ GEgq.out | refine below_set ?_ GEgr.out) | exact HB.out)))).mono ?_
      rintro e v9 ⟨rfl, hb⟩
      have n0_ := Aside0.mk (blk_below (g := gp) (o := .cells #[.int .i64 a0, .int .i64 b0, .string c0] 23 (0, 0)) (by (with_reducible repeat (first | refine blk_drewN ?_ _ | refine blk_drew ?_ | refine blk_alloc ?_ _)); refine blk_far ?_ NBgp_gr.out _; (with_reducible repeat (first | refine blk_drewN ?_ _ | refine blk_drew ?_ | refine blk_alloc ?_ _)); refine blk_far ?_ NBgp_gr.out _; (with_reducible repeat (first | refine blk_drewN ?_ _ | refine blk_drew ?_ | refine blk_alloc ?_ _)); refine blk_far ?_ NBgp_gr.out _; (with_reducible repeat (first | refine blk_drewN ?_ _ | refine blk_drew ?_ | refine blk_alloc ?_ _)); exact BKgp.out) hb)
      have n1_ := Aside0.mk (blk_below (g := gn) (o := .cells #[.int .i64 n0, .int .i64 n1, .int .i64 n2] 36 (0, 0)) (by (with_reducible repeat (first | refine blk_drewN ?_ _ | refine blk_drew ?_ | refine blk_alloc ?_ _)); refine blk_far ?_ NBgn_gr.out _; (with_reducible repeat (first | refine blk_drewN ?_ _ | refine blk_drew ?_ | refine blk_alloc ?_ _)); refine blk_far ?_ NBgn_gr.out _; (with_reducible repeat (first | refine blk_drewN ?_ _ | refine blk_drew ?_ | refine blk_alloc ?_ _)); refine blk_far ?_ NBgn_gr.out _; (with_reducible repeat (first | refine blk_drewN ?_ _ | refine blk_drew ?_ | refine blk_alloc ?_ _)); exact BKgn.out) hb)
      have n2_ := Aside0.mk (blk_below (g := gy) (o := .cells #[.int .u8 (y0.toNat : Int), .int .u8 (y1.toNat : Int), .int .u8 (y2.toNat : Int), .int .u8 (y3.toNat : Int)] 37 (0, 0)) (by (with_reducible repeat (first | refine blk_drewN ?_ _ | refine blk_drew ?_ | refine blk_alloc ?_ _)); refine blk_far ?_ NBgy_gr.out _; (with_reducible repeat (first | refine blk_drewN ?_ _ | refine blk_drew ?_ | refine blk_alloc ?_ _)); refine blk_far ?_ NBgy_gr.out _; (with_reducible repeat (first | refine blk_drewN ?_ _ | refine blk_drew ?_ | refine blk_alloc ?_ _)); refine blk_far ?_ NBgy_gr.out _; (with_reducible repeat (first | refine blk_drewN ?_ _ | refine blk_drew ?_ | refine blk_alloc ?_ _)); exact BKgy.out) hb)
      have n3_ := Aside0.mk (blk_below (g := gq) (o := .cells #[.int .i64 a0, .int .i64 b0, .string c0] 23 (0, 0)) (by (with_reducible repeat (first | refine blk_drewN ?_ _ | refine blk_drew ?_ | refine blk_alloc ?_ _)); refine blk_far ?_ NBgq_gr.out _; (with_reducible repeat (first | refine blk_drewN ?_ _ | refine blk_drew ?_ | refine blk_alloc ?_ _)); refine blk_far ?_ NBgq_gr.out _; (with_reducible repeat (first | refine blk_drewN ?_ _ | refine blk_drew ?_ | refine blk_alloc ?_ _)); refine blk_far ?_ NBgq_gr.out _; (with_reducible repeat (first | refine blk_drewN ?_ _ | refine blk_drew ?_ | refine blk_alloc ?_ _)); exact BKgq.out) hb)
      have n4_ := Aside0.mk (blk_below (g := gr) (o := .cells #[.int .i64 a0, .int .i64 b0, .string c0] 23 (0, 0)) (by (with_reducible repeat (first | refine blk_drewN ?_ _ | refine blk_drew ?_ | refine blk_alloc ?_ _)); refine blk_put (cs := #[.int .i64 a0, .int .i64 b0, .string (⟨#[]⟩ : ByteArray)]) ?_ 2 _ rfl; (with_reducible repeat (first | refine blk_drewN ?_ _ | refine blk_drew ?_ | refine blk_alloc ?_ _)); refine blk_put (cs := #[.int .i64 a0, .int .i64 0, .string (⟨#[]⟩ : ByteArray)]) ?_ 1 _ rfl; (with_reducible repeat (first | refine blk_drewN ?_ _ | refine blk_drew ?_ | refine blk_alloc ?_ _)); refine blk_put (cs := #[.int .i64 0, .int .i64 0, .string (⟨#[]⟩ : ByteArray)]) ?_ 0 _ rfl; (with_reducible repeat (first | refine blk_drewN ?_ _ | refine blk_drew ?_ | refine blk_alloc ?_ _)); exact BKgr.out) hb)
      have n5_ := Aside0.mk (below_step (by repeat (first | (with_reducible first | exact HB.out | apply below_alloc | apply pw_below_drewN | apply below_drew1 | refine below_set ?_ GEgp.out | refine below_set ?_ GEgn.out | refine below_set ?_ GEgy.out | refine below_set ?_ GEgq.out | refine below_set ?_ GEgr.out) | exact HB.out)) hb)
      clear BKgp
      clear BKgn
      clear BKgy
      clear BKgq
      clear BKgr
      clear HB
      have BKgp := n0_; clear n0_
      have BKgn := n1_; clear n1_
      have BKgy := n2_; clear n2_
      have BKgq := n3_; clear n3_
      have BKgr := n4_; clear n4_
      have HB := n5_; clear n5_
      (try clear hb)
      have hcz92 : v9.cell? ⟨gp, 0, none⟩ = some (.int .i64 a0) := (blk_cell BKgp.out 0).trans rfl
      have hfz92 := blk_frozen BKgp.out 0
      have hcz93 : v9.cell? ⟨gp, 1, none⟩ = some (.int .i64 b0) := (blk_cell BKgp.out 1).trans rfl
      have hfz93 := blk_frozen BKgp.out 1
      have hcz94 : v9.cell? ⟨gp, 2, none⟩ = some (.string c0) := (blk_cell BKgp.out 2).trans rfl
      have hfz94 := blk_frozen BKgp.out 2
      have hcz95 : v9.cell? ⟨gn, 0, none⟩ = some (.int .i64 n0) := (blk_cell BKgn.out 0).trans rfl
      have hfz95 := blk_frozen BKgn.out 0
      have hcz96 : v9.cell? ⟨gn, 1, none⟩ = some (.int .i64 n1) := (blk_cell BKgn.out 1).trans rfl
      have hfz96 := blk_frozen BKgn.out 1
      have hcz97 : v9.cell? ⟨gn, 2, none⟩ = some (.int .i64 n2) := (blk_cell BKgn.out 2).trans rfl
      have hfz97 := blk_frozen BKgn.out 2
      have hcz98 : v9.cell? ⟨gy, 0, none⟩ = some (.int .u8 (y0.toNat : Int)) := (blk_cell BKgy.out 0).trans rfl
      have hfz98 := blk_frozen BKgy.out 0
      have hcz99 : v9.cell? ⟨gy, 1, none⟩ = some (.int .u8 (y1.toNat : Int)) := (blk_cell BKgy.out 1).trans rfl
      have hfz99 := blk_frozen BKgy.out 1
      have hcz100 : v9.cell? ⟨gy, 2, none⟩ = some (.int .u8 (y2.toNat : Int)) := (blk_cell BKgy.out 2).trans rfl
      have hfz100 := blk_frozen BKgy.out 2
      have hcz101 : v9.cell? ⟨gy, 3, none⟩ = some (.int .u8 (y3.toNat : Int)) := (blk_cell BKgy.out 3).trans rfl
      have hfz101 := blk_frozen BKgy.out 3
      have hcz102 : v9.cell? ⟨gq, 0, none⟩ = some (.int .i64 a0) := (blk_cell BKgq.out 0).trans rfl
      have hfz102 := blk_frozen BKgq.out 0
      have hcz103 : v9.cell? ⟨gq, 1, none⟩ = some (.int .i64 b0) := (blk_cell BKgq.out 1).trans rfl
      have hfz103 := blk_frozen BKgq.out 1
      have hcz104 : v9.cell? ⟨gq, 2, none⟩ = some (.string c0) := (blk_cell BKgq.out 2).trans rfl
      have hfz104 := blk_frozen BKgq.out 2
      have hcz105 : v9.cell? ⟨gr, 0, none⟩ = some (.int .i64 a0) := (blk_cell BKgr.out 0).trans rfl
      have hfz105 := blk_frozen BKgr.out 0
      have hcz106 : v9.cell? ⟨gr, 1, none⟩ = some (.int .i64 b0) := (blk_cell BKgr.out 1).trans rfl
      have hfz106 := blk_frozen BKgr.out 1
      have hcz107 : v9.cell? ⟨gr, 2, none⟩ = some (.string c0) := (blk_cell BKgr.out 2).trans rfl
      have hfz107 := blk_frozen BKgr.out 2
      go_wp2_with fail
      have Hsz := Lib.hid hsz
      clear hsz
      have hcv := fun W : World => Lib.run_convert_string_bytes (P := Tryd.prog) W 9 39 5 S Tryd.underlying9 Tryd.underlying39 Tryd.underlying5
      obtain ⟨k, hk, hk9⟩ := at_k n2
      rw [hk, hcv]
      go_wp2_with fail
      obtain ⟨L0, hL0⟩ : ∃ l, l = S.data.toList := ⟨_, rfl⟩
      have hL0n : L0.length = 256 := by rw [hL0, RowU.data_length]; exact Hsz.out
      obtain ⟨W, hW⟩ : ∃ W, W = Lib.bytesWorld v9 5 S := ⟨_, rfl⟩
      obtain ⟨B, hB⟩ : ∃ B, B = v9.heap.size := ⟨_, rfl⟩
      obtain ⟨C, hCc⟩ : ∃ C, C = grownCap v9 S.size 0 5 := ⟨_, rfl⟩
      obtain ⟨n, hn⟩ : ∃ n, n = S.size := ⟨_, rfl⟩
      have hbel : Below v9.heap.size v9 W := by
        rw [hW]; exact ⟨rfl, rfl, rfl, by rw [Lib.bytesWorld_size]; omega, fun j hj => Lib.bytesWorld_at_old v9 _ S j hj⟩
      have hrow : Row W B L0 := by rw [hW, hB]; exact Row.init v9 _ S L0 hL0
      rw [← hW, ← hCc, ← hB, ← hn]
      have gnB : gn ≠ B := by rw [hB]; exact Nat.ne_of_lt (blk_lt BKgn.out)
      have gyB : gy ≠ B := by rw [hB]; exact Nat.ne_of_lt (blk_lt BKgy.out)
      have kgn := blk_below BKgn.out hbel
      have kgy := blk_below BKgy.out hbel
      have kbel : Below w.heap.size w W := below_step HB.out hbel
      have hwB : w.heap.size ≤ B := by rw [hB]; exact below_size HB.out
      have hn6 : n = 256 := by rw [hn]; exact Hsz.out
      obtain ⟨M0, hM0⟩ : ∃ l, l = L0.take 252 := ⟨_, rfl⟩
      obtain ⟨tl, htl⟩ : ∃ l, l = L0.drop 252 := ⟨_, rfl⟩
      have hL : L0 = M0 ++ tl := by rw [hM0, htl, List.take_append_drop]
      have hM0n : M0.length = 252 := by rw [hM0, List.length_take, hL0n]; rfl
      have htn : tl.length = 4 := by rw [htl, List.length_drop, hL0n]
      rw [hL] at hrow
      have HL0 := Lib.hid (hL ▸ hL0 : M0 ++ tl = S.data.toList)
      have HM0n := Lib.hid hM0n
      have Htn := Lib.hid htn
      have Hn6 := Lib.hid hn6
      clear hL0 hL0n hW hB hCc hn hbel hn6 hM0n htn hM0 htl hL hcv hk
      skip
      have HGh := Lib.hid HG.out
      go_loopw [15] (fun v15 w' => ∃ (i : Nat) (m : List UInt8), i ≤ 4 ∧ m.length = 252 ∧ Crc.leNum m = Crc.leNum M0 ^^^ (2 ^ (8 * k) * Crc.leNum ([y0, y1, y2, y3].take i)) ∧ v15 = .int .i64 i ∧ Row w' B (m ++ tl) ∧ w'.heap[gn]? = some (.cells #[.int .i64 n0, .int .i64 n1, .int .i64 n2] 36 (0, 0)) ∧ w'.heap[gy]? = some (.cells #[.int .u8 (y0.toNat : Int), .int .u8 (y1.toNat : Int), .int .u8 (y2.toNat : Int), .int .u8 (y3.toNat : Int)] 37 (0, 0)) ∧ Below w.heap.size w w') (fun v15 _ => 4 - (intOf v15).toNat)
      case atStart => exact ⟨0, M0, by omega, HM0n.out, by rw [List.take_zero]; show _ = Crc.leNum M0 ^^^ (2 ^ (8 * k) * 0); rw [Nat.mul_zero, Nat.xor_zero], rfl, hrow, kgn, kgy, kbel⟩
      clear hrow kgn kgy kbel
      case round =>
        obtain ⟨i, m, hi, hml, hle, rfl, hR, hgn, hgy, hb⟩ := hrel
        have Hle := Lib.hid hle
        have Hml := Lib.hid hml
        clear hle hml
        by_cases hlt : i < 4
        · obtain ⟨y, hyc, hyi⟩ := y_at y0 y1 y2 y3 hgy i hlt
          have hyf := blk_frozen hgy i
          obtain ⟨j, hj⟩ : ∃ j, j = k + i := ⟨_, rfl⟩
          have hjw : IntKind.i64.wrap ((k : Int) + (i : Int)) = (j : Int) := by rw [i64_w, hj]; unfold wrap64; omega
          have hj6 : ((j : Int) < 256) = True := eq_true (by omega)
          have hj7 : j < n := by rw [Hn6.out]; omega
          have hi4 : ((i : Int) < 4) = True := eq_true (by omega)
          have hql : j < (m ++ tl).length := by rw [List.length_append, Hml.out, Htn.out]; omega
          have hcl := hR.cell _ hql
          have hfr := hR.free _ hql
          obtain ⟨x, hx⟩ : ∃ x, x = (m ++ tl)[j] := ⟨_, rfl⟩
          rw [← hx] at hcl
          have hkm : j < m.length := by rw [Hml.out]; omega
          have hxm : m[j] = x := by rw [hx, List.getElem_append_left hkm]
          have hx8 := xor_byte x y
          have hnext : Row ((wr.setCell ⟨B, j, none⟩ (.int .u8 ((x.toNat ^^^ y.toNat : Nat) : Int))).drew) B (m.set j (x ^^^ y) ++ tl) := by
            have := hR.set _ hql (x ^^^ y)
            rw [List.set_append_left _ _ hkm, UInt8.toNat_xor] at this
            exact ⟨this.cell, this.free⟩
          have hturn : Crc.leNum (m.set j (x ^^^ y)) = Crc.leNum M0 ^^^ (2 ^ (8 * k) * Crc.leNum ([y0, y1, y2, y3].take (i + 1))) := by
            have hi4 : i < [y0, y1, y2, y3].length := hlt
            subst hj
            have := Crc.turn_more M0 m [y0, y1, y2, y3] k i hi4 Hle.out hkm
            rw [hxm, show [y0, y1, y2, y3][i] = y by rw [List.getElem?_eq_getElem hi4] at hyi; exact Option.some.inj hyi] at this
            exact this
          have Hnext := Lib.hid hnext
          have Hturn := Lib.hid hturn
          have Hql := Lib.hid hql
          have Hkm := Lib.hid hkm
          have Hj := Lib.hid hj
          clear hnext hturn hx hxm hyi hql hkm hj
          go_wp2
          have hcl2 : wr.drew.cell? ⟨B, j, none⟩ = some (.int .u8 ((x.toNat : Nat) : Int)) := hcl
          have hyc2 : wr.drew.cell? ⟨gy, i, none⟩ = some (.int .u8 (y.toNat : Int)) := hyc
          have hfr2 : wr.drew.frozen? ⟨B, j, none⟩ = false := hfr
          refine start_ (n := 12) (S := (fun w' => w'.cell? ⟨B, j, none⟩ = some (.int .u8 ((x.toNat : Nat) : Int)) ∧ w'.cell? ⟨gy, i, none⟩ = some (.int .u8 (y.toNat : Int)))) (ds := [11]) #[false, false, false, false, false, false, false, false, false, false, false, false] (by kernel_rfl) rfl rfl ⟨hcl, hyc⟩ (fun hHeld => ?_)
          refine pure_ (i := 0) (N := (some 93)) (v := ?_) (a' := ?_) #[true, false, false, false, false, false, false, false, false, false, false, false] rfl rfl (by kernel_rfl) (fun _ _ _ h => h) (Or.inl ⟨by rfl, ?_⟩) ?_ ?_
          rotate_left
          · intro w'
            go_simp
            with_reducible rfl
          rotate_left
          · simp only [Act.put, List.setIfInBounds_toArray, List.set_cons_zero, List.set_cons_succ]
            rfl
          refine pure_ (i := 1) (N := (some 94)) (v := ?_) (a' := ?_) #[true, true, false, false, false, false, false, false, false, false, false, false] rfl rfl (by kernel_rfl) (fun _ _ _ h => h) (Or.inl ⟨by rfl, ?_⟩) ?_ ?_
          rotate_left
          · intro w'
            go_simp
            with_reducible rfl
          rotate_left
          · simp only [Act.put, List.setIfInBounds_toArray, List.set_cons_zero, List.set_cons_succ]
            rfl
          refine pure_ (i := 2) (N := (some 95)) (v := ?_) (a' := ?_) #[true, true, true, false, false, false, false, false, false, false, false, false] rfl rfl (by kernel_rfl) (fun _ _ _ h => h) (Or.inl ⟨by rfl, ?_⟩) ?_ ?_
          rotate_left
          · intro w'
            go_simp
            with_reducible rfl
          rotate_left
          · simp only [Act.put, List.setIfInBounds_toArray, List.set_cons_zero, List.set_cons_succ]
            rfl
          refine pure_ (i := 3) (N := (some 96)) (v := ?_) (a' := ?_) #[true, true, true, true, false, false, false, false, false, false, false, false] rfl rfl (by kernel_rfl) (fun _ _ _ h => h) (Or.inl ⟨by rfl, ?_⟩) ?_ ?_
          rotate_left
          · intro w'
            go_simp
            with_reducible rfl
          rotate_left
          · simp only [Act.put, List.setIfInBounds_toArray, List.set_cons_zero, List.set_cons_succ]
            rfl
          refine pure_ (i := 4) (N := (some 97)) (v := ?_) (a' := ?_) #[true, true, true, true, true, false, false, false, false, false, false, false] rfl rfl (by kernel_rfl) (fun _ _ _ h => h) (Or.inl ⟨by rfl, ?_⟩) ?_ ?_
          rotate_left
          · intro w'
            go_simp
            with_reducible rfl
          rotate_left
          · simp only [Act.put, List.setIfInBounds_toArray, List.set_cons_zero, List.set_cons_succ]
            rfl
          refine take_ (i := 5) (N := (some 98)) (v := ?_) (a' := ?_) #[true, true, true, true, true, true, false, false, false, false, false, false] rfl rfl (by kernel_rfl) (fun _ _ _ h => h) (Or.inl ⟨by rfl, ?_⟩) hHeld ?_ ?_
          rotate_left
          · rintro w' ⟨hs1_, hs2_⟩
            go_simp
            with_reducible rfl
          rotate_left
          · simp only [Act.put, List.setIfInBounds_toArray, List.set_cons_zero, List.set_cons_succ]
            rfl
          refine pure_ (i := 6) (N := (some 99)) (v := ?_) (a' := ?_) #[true, true, true, true, true, true, true, false, false, false, false, false] rfl rfl (by kernel_rfl) (fun _ _ _ h => h) (Or.inl ⟨by rfl, ?_⟩) ?_ ?_
          rotate_left
          · intro w'
            go_simp
            with_reducible rfl
          rotate_left
          · simp only [Act.put, List.setIfInBounds_toArray, List.set_cons_zero, List.set_cons_succ]
            rfl
          refine pure_ (i := 7) (N := (some 100)) (v := ?_) (a' := ?_) #[true, true, true, true, true, true, true, true, false, false, false, false] rfl rfl (by kernel_rfl) (fun _ _ _ h => h) (Or.inl ⟨by rfl, ?_⟩) ?_ ?_
          rotate_left
          · intro w'
            go_simp
            with_reducible rfl
          rotate_left
          · simp only [Act.put, List.setIfInBounds_toArray, List.set_cons_zero, List.set_cons_succ]
            rfl
          refine take_ (i := 8) (N := (some 101)) (v := ?_) (a' := ?_) #[true, true, true, true, true, true, true, true, true, false, false, false] rfl rfl (by kernel_rfl) (fun _ _ _ h => h) (Or.inl ⟨by rfl, ?_⟩) hHeld ?_ ?_
          rotate_left
          · rintro w' ⟨hs1_, hs2_⟩
            go_simp
            with_reducible rfl
          rotate_left
          · simp only [Act.put, List.setIfInBounds_toArray, List.set_cons_zero, List.set_cons_succ]
            rfl
          refine pure_ (i := 9) (N := (some 102)) (v := ?_) (a' := ?_) #[true, true, true, true, true, true, true, true, true, true, false, false] rfl rfl (by kernel_rfl) (fun _ _ _ h => h) (Or.inl ⟨by rfl, ?_⟩) ?_ ?_
          rotate_left
          · intro w'
            go_simp
            with_reducible rfl
          rotate_left
          · simp only [Act.put, List.setIfInBounds_toArray, List.set_cons_zero, List.set_cons_succ]
            rfl
          refine pure_ (i := 10) (N := (some 103)) (v := ?_) (a' := ?_) #[true, true, true, true, true, true, true, true, true, true, true, false] rfl rfl (by kernel_rfl) (fun _ _ _ h => h) (Or.inl ⟨by rfl, ?_⟩) ?_ ?_
          rotate_left
          · intro w'
            go_simp
            with_reducible rfl
          rotate_left
          · simp only [Act.put, List.setIfInBounds_toArray, List.set_cons_zero, List.set_cons_succ]
            rfl
          refine last_ (i := 11) (N := none) #[true, true, true, true, true, true, true, true, true, true, true, true] rfl rfl (by kernel_rfl) (by decide) (fun K hK => ?_)
          refine skip_ (w1 := ?_) (by rfl) rfl ?_ ?_
          rotate_left
          · go_simp
            rfl
          refine hK.out _ _ ?_
          clear hK K
          refine done_ (by kernel_rfl) ?_
          go_wp2
          refine ⟨⟨i + 1, m.set j (x ^^^ y), by omega, by rw [List.length_set]; exact Hml.out, Hturn.out, by go_num, Hnext.out, blk_drew (blk_far hgn gnB _), blk_drew (blk_far hgy gyB _), below_drew1 (below_set hb hwB)⟩, ?_⟩
          simp [intOf]; omega
        · have hltf : decide ((i : Int) < 4) = false := decide_eq_false (by omega)
          have hi4 : i = 4 := by omega
          have hle4 := Hle.out
          rw [hi4] at hle4
          obtain ⟨T, hT⟩ : ∃ T, T = txt (m ++ tl) := ⟨_, rfl⟩
          have hln : (m ++ tl).length = 256 := by rw [List.length_append, Hml.out, Htn.out]
          have hcv : ∀ w1, Row w1 B (m ++ tl) → (convert 39 9 (.slice (some ⟨B, 0, none⟩) n C)).run Tryd.prog w1 = .ok (.string T) w1 := by
            intro w1 h1
            rw [hT, txt_eq]
            refine run_convert_bytes_arg w1 _ 5 Tryd.underlying39 Tryd.underlying5 B 0 n C _ (by rw [List.length_map, hln, Hn6.out]) (fun j hj => ?_) _ Tryd.underlying9
            have hjl : j < (m ++ tl).length := by rw [hln, ← Hn6.out]; exact hj
            rw [Nat.zero_add, h1.cell j hjl]
            simp only [List.getD_eq_getElem?_getD, List.getElem?_map, List.getElem?_eq_getElem hjl, Option.map_some, Option.getD_some]
          have hpos : 0 < (m ++ tl).length := by rw [hln]; decide
          have HB := Aside0.mk hb; clear hb
          have BKgn := Aside0.mk hgn; clear hgn
          have BKgy := Aside0.mk hgy; clear hgy
          have Hpos := Lib.hid hpos; have Hcv := Lib.hid hcv; clear hpos hcv hln
          have hcz501 : wr.cell? ⟨gn, 0, none⟩ = some (.int .i64 n0) := (blk_cell BKgn.out 0).trans rfl
          have hfz501 := blk_frozen BKgn.out 0
          have hcz502 : wr.cell? ⟨gn, 1, none⟩ = some (.int .i64 n1) := (blk_cell BKgn.out 1).trans rfl
          have hfz502 := blk_frozen BKgn.out 1
          have hcz503 : wr.cell? ⟨gn, 2, none⟩ = some (.int .i64 n2) := (blk_cell BKgn.out 2).trans rfl
          have hfz503 := blk_frozen BKgn.out 2
          have hcz504 : wr.cell? ⟨gy, 0, none⟩ = some (.int .u8 (y0.toNat : Int)) := (blk_cell BKgy.out 0).trans rfl
          have hfz504 := blk_frozen BKgy.out 0
          have hcz505 : wr.cell? ⟨gy, 1, none⟩ = some (.int .u8 (y1.toNat : Int)) := (blk_cell BKgy.out 1).trans rfl
          have hfz505 := blk_frozen BKgy.out 1
          have hcz506 : wr.cell? ⟨gy, 2, none⟩ = some (.int .u8 (y2.toNat : Int)) := (blk_cell BKgy.out 2).trans rfl
          have hfz506 := blk_frozen BKgy.out 2
          have hcz507 : wr.cell? ⟨gy, 3, none⟩ = some (.int .u8 (y3.toNat : Int)) := (blk_cell BKgy.out 3).trans rfl
          have hfz507 := blk_frozen BKgy.out 3
          by_cases hd : Crc.leNum [y0, y1, y2, y3] = 0
          · have hm0 := Crc.burst4_same M0 m [y0, y1, y2, y3] k (by rw [Hml.out, HM0n.out]) hle4 hd
            have hTS : T = S := by rw [hT, hm0]; apply str_ext; rw [txt_data]; exact HL0.out
            obtain ⟨q0, q1, q2, q3⟩ := (Crc.four_zero y0 y1 y2 y3).1 hd
            have q0 := eq_true (show (y0.toNat : Int) = 0 by rw [q0]; rfl)
            have q1 := eq_true (show (y1.toNat : Int) = 0 by rw [q1]; rfl)
            have q2 := eq_true (show (y2.toNat : Int) = 0 by rw [q2]; rfl)
            have q3 := eq_true (show (y3.toNat : Int) = 0 by rw [q3]; rfl)
            rw [hTS] at Hcv
            clear hd hm0 hTS hT hle4 hi4
            go_wp2_with fail
            rw [Hcv.out _ hR]
            go_wp2_with fail
            with_reducible refine (CG0.out _ (Glob.below HG.out (by repeat (first | (with_reducible first | exact HB.out | apply below_alloc | apply pw_below_drewN | apply below_drew1 | refine below_set ?_ GEgn.out | refine below_set ?_ GEgy.out) | exact HB.out)))).mono ?_
            rintro e v10 ⟨rfl, hb⟩
            have n0_ := Aside0.mk (blk_below (g := gn) (o := .cells #[.int .i64 n0, .int .i64 n1, .int .i64 n2] 36 (0, 0)) (by (with_reducible repeat (first | refine blk_drewN ?_ _ | refine blk_drew ?_ | refine blk_alloc ?_ _)); exact BKgn.out) hb)
            have n1_ := Aside0.mk (blk_below (g := gy) (o := .cells #[.int .u8 (y0.toNat : Int), .int .u8 (y1.toNat : Int), .int .u8 (y2.toNat : Int), .int .u8 (y3.toNat : Int)] 37 (0, 0)) (by (with_reducible repeat (first | refine blk_drewN ?_ _ | refine blk_drew ?_ | refine blk_alloc ?_ _)); exact BKgy.out) hb)
            have n2_ := Aside0.mk (below_step (by repeat (first | (with_reducible first | exact HB.out | apply below_alloc | apply pw_below_drewN | apply below_drew1 | refine below_set ?_ GEgn.out | refine below_set ?_ GEgy.out) | exact HB.out)) hb)
            clear BKgn
            clear BKgy
            clear HB
            have BKgn := n0_; clear n0_
            have BKgy := n1_; clear n1_
            have HB := n2_; clear n2_
            (try clear hb)
            have hcz508 : v10.cell? ⟨gn, 0, none⟩ = some (.int .i64 n0) := (blk_cell BKgn.out 0).trans rfl
            have hfz508 := blk_frozen BKgn.out 0
            have hcz509 : v10.cell? ⟨gn, 1, none⟩ = some (.int .i64 n1) := (blk_cell BKgn.out 1).trans rfl
            have hfz509 := blk_frozen BKgn.out 1
            have hcz510 : v10.cell? ⟨gn, 2, none⟩ = some (.int .i64 n2) := (blk_cell BKgn.out 2).trans rfl
            have hfz510 := blk_frozen BKgn.out 2
            have hcz511 : v10.cell? ⟨gy, 0, none⟩ = some (.int .u8 (y0.toNat : Int)) := (blk_cell BKgy.out 0).trans rfl
            have hfz511 := blk_frozen BKgy.out 0
            have hcz512 : v10.cell? ⟨gy, 1, none⟩ = some (.int .u8 (y1.toNat : Int)) := (blk_cell BKgy.out 1).trans rfl
            have hfz512 := blk_frozen BKgy.out 1
            have hcz513 : v10.cell? ⟨gy, 2, none⟩ = some (.int .u8 (y2.toNat : Int)) := (blk_cell BKgy.out 2).trans rfl
            have hfz513 := blk_frozen BKgy.out 2
            have hcz514 : v10.cell? ⟨gy, 3, none⟩ = some (.int .u8 (y3.toNat : Int)) := (blk_cell BKgy.out 3).trans rfl
            have hfz514 := blk_frozen BKgy.out 3
            go_wp2_with ((with_reducible refine gate_dst (N := 16) rfl ?_); (try (refine gate_guard (by rfl) ?_; dsimp only)); refine box_event ?hg (N := 16) ?hd (cs := #[.int .i64 0, .int .i64 0, .string (⟨#[]⟩ : ByteArray)]) (t := 23) ?hr ?_; (case hd => rfl); (case hg => rfl); (case hr => first | (go_simp; done) | (go_simp; rfl)); intro gu hg v11 hbox hb; have n0_ := Aside0.mk (by rw [hg]; exact Nat.ne_of_lt (blk_lt (g := gn) (o := .cells #[.int .i64 n0, .int .i64 n1, .int .i64 n2] 36 (0, 0)) (by (with_reducible repeat (first | refine blk_drewN ?_ _ | refine blk_drew ?_ | refine blk_alloc ?_ _)); exact BKgn.out)) : gn ≠ gu); have n1_ := Aside0.mk (by rw [hg]; exact Nat.ne_of_gt (blk_lt (g := gn) (o := .cells #[.int .i64 n0, .int .i64 n1, .int .i64 n2] 36 (0, 0)) (by (with_reducible repeat (first | refine blk_drewN ?_ _ | refine blk_drew ?_ | refine blk_alloc ?_ _)); exact BKgn.out)) : gu ≠ gn); have n2_ := Aside0.mk (by rw [hg]; exact Nat.ne_of_lt (blk_lt (g := gy) (o := .cells #[.int .u8 (y0.toNat : Int), .int .u8 (y1.toNat : Int), .int .u8 (y2.toNat : Int), .int .u8 (y3.toNat : Int)] 37 (0, 0)) (by (with_reducible repeat (first | refine blk_drewN ?_ _ | refine blk_drew ?_ | refine blk_alloc ?_ _)); exact BKgy.out)) : gy ≠ gu); have n3_ := Aside0.mk (by rw [hg]; exact Nat.ne_of_gt (blk_lt (g := gy) (o := .cells #[.int .u8 (y0.toNat : Int), .int .u8 (y1.toNat : Int), .int .u8 (y2.toNat : Int), .int .u8 (y3.toNat : Int)] 37 (0, 0)) (by (with_reducible repeat (first | refine blk_drewN ?_ _ | refine blk_drew ?_ | refine blk_alloc ?_ _)); exact BKgy.out)) : gu ≠ gy); have n4_ := Aside0.mk (by rw [hg]; exact below_size (by repeat (first | (with_reducible first | exact HB.out | apply below_alloc | apply pw_below_drewN | apply below_drew1 | refine below_set ?_ GEgn.out | refine below_set ?_ GEgy.out) | exact HB.out)) : w.heap.size ≤ gu); have n5_ := Aside0.mk (blk_below (g := gn) (o := .cells #[.int .i64 n0, .int .i64 n1, .int .i64 n2] 36 (0, 0)) (by (with_reducible repeat (first | refine blk_drewN ?_ _ | refine blk_drew ?_ | refine blk_alloc ?_ _)); exact BKgn.out) hb); have n6_ := Aside0.mk (blk_below (g := gy) (o := .cells #[.int .u8 (y0.toNat : Int), .int .u8 (y1.toNat : Int), .int .u8 (y2.toNat : Int), .int .u8 (y3.toNat : Int)] 37 (0, 0)) (by (with_reducible repeat (first | refine blk_drewN ?_ _ | refine blk_drew ?_ | refine blk_alloc ?_ _)); exact BKgy.out) hb); have n7_ := Aside0.mk (below_step (by repeat (first | (with_reducible first | exact HB.out | apply below_alloc | apply pw_below_drewN | apply below_drew1 | refine below_set ?_ GEgn.out | refine below_set ?_ GEgy.out) | exact HB.out)) hb); have n8_ := Aside0.mk hbox; clear BKgn; clear BKgy; clear HB; have NBgn_gu := n0_; clear n0_; have NBgu_gn := n1_; clear n1_; have NBgy_gu := n2_; clear n2_; have NBgu_gy := n3_; clear n3_; have GEgu := n4_; clear n4_; have BKgn := n5_; clear n5_; have BKgy := n6_; clear n6_; have HB := n7_; clear n7_; have BKgu := n8_; clear n8_; clear hb hbox hg; have hnb515 := NBgn_gu.out; have hnc515 := NBgu_gn.out; have hnb516 := NBgy_gu.out; have hnc516 := NBgu_gy.out; have hcz517 : v11.cell? ⟨gn, 0, none⟩ = some (.int .i64 n0) := (blk_cell BKgn.out 0).trans rfl; have hfz517 := blk_frozen BKgn.out 0; have hcz518 : v11.cell? ⟨gn, 1, none⟩ = some (.int .i64 n1) := (blk_cell BKgn.out 1).trans rfl; have hfz518 := blk_frozen BKgn.out 1; have hcz519 : v11.cell? ⟨gn, 2, none⟩ = some (.int .i64 n2) := (blk_cell BKgn.out 2).trans rfl; have hfz519 := blk_frozen BKgn.out 2; have hcz520 : v11.cell? ⟨gy, 0, none⟩ = some (.int .u8 (y0.toNat : Int)) := (blk_cell BKgy.out 0).trans rfl; have hfz520 := blk_frozen BKgy.out 0; have hcz521 : v11.cell? ⟨gy, 1, none⟩ = some (.int .u8 (y1.toNat : Int)) := (blk_cell BKgy.out 1).trans rfl; have hfz521 := blk_frozen BKgy.out 1; have hcz522 : v11.cell? ⟨gy, 2, none⟩ = some (.int .u8 (y2.toNat : Int)) := (blk_cell BKgy.out 2).trans rfl; have hfz522 := blk_frozen BKgy.out 2; have hcz523 : v11.cell? ⟨gy, 3, none⟩ = some (.int .u8 (y3.toNat : Int)) := (blk_cell BKgy.out 3).trans rfl; have hfz523 := blk_frozen BKgy.out 3; have hcz524 : v11.cell? ⟨gu, 0, none⟩ = some (.int .i64 0) := (blk_cell BKgu.out 0).trans rfl; have hfz524 := blk_frozen BKgu.out 0; have hcz525 : v11.cell? ⟨gu, 1, none⟩ = some (.int .i64 0) := (blk_cell BKgu.out 1).trans rfl; have hfz525 := blk_frozen BKgu.out 1; have hcz526 : v11.cell? ⟨gu, 2, none⟩ = some (.string (⟨#[]⟩ : ByteArray)) := (blk_cell BKgu.out 2).trans rfl; have hfz526 := blk_frozen BKgu.out 2)
            rw [PagE.eq4, show ((0 : Int) == 0 && ((0 : Int) == 0 && ((0 : Int) == 0 && ((0 : Int) == 0 && true)))) = true from rfl]; simp only [Result.andThen_ok]
            go_wp2_with fail
            with_reducible refine (CW.out _ (Glob.below HG.out (by repeat (first | (with_reducible first | exact HB.out | apply below_alloc | apply pw_below_drewN | apply below_drew1 | refine below_set ?_ GEgn.out | refine below_set ?_ GEgy.out | refine below_set ?_ GEgu.out) | exact HB.out)))).mono ?_
            rintro e v12 ⟨rfl, hb⟩
            have n0_ := Aside0.mk (blk_below (g := gn) (o := .cells #[.int .i64 n0, .int .i64 n1, .int .i64 n2] 36 (0, 0)) (by (with_reducible repeat (first | refine blk_drewN ?_ _ | refine blk_drew ?_ | refine blk_alloc ?_ _)); refine blk_far ?_ NBgn_gu.out _; (with_reducible repeat (first | refine blk_drewN ?_ _ | refine blk_drew ?_ | refine blk_alloc ?_ _)); refine blk_far ?_ NBgn_gu.out _; (with_reducible repeat (first | refine blk_drewN ?_ _ | refine blk_drew ?_ | refine blk_alloc ?_ _)); refine blk_far ?_ NBgn_gu.out _; (with_reducible repeat (first | refine blk_drewN ?_ _ | refine blk_drew ?_ | refine blk_alloc ?_ _)); exact BKgn.out) hb)
            have n1_ := Aside0.mk (blk_below (g := gy) (o := .cells #[.int .u8 (y0.toNat : Int), .int .u8 (y1.toNat : Int), .int .u8 (y2.toNat : Int), .int .u8 (y3.toNat : Int)] 37 (0, 0)) (by (with_reducible repeat (first | refine blk_drewN ?_ _ | refine blk_drew ?_ | refine blk_alloc ?_ _)); refine blk_far ?_ NBgy_gu.out _; (with_reducible repeat (first | refine blk_drewN ?_ _ | refine blk_drew ?_ | refine blk_alloc ?_ _)); refine blk_far ?_ NBgy_gu.out _; (with_reducible repeat (first | refine blk_drewN ?_ _ | refine blk_drew ?_ | refine blk_alloc ?_ _)); refine blk_far ?_ NBgy_gu.out _; (with_reducible repeat (first | refine blk_drewN ?_ _ | refine blk_drew ?_ | refine blk_alloc ?_ _)); exact BKgy.out) hb)
            have n2_ := Aside0.mk (blk_below (g := gu) (o := .cells #[.int .i64 a0, .int .i64 b0, .string c0] 23 (0, 0)) (by (with_reducible repeat (first | refine blk_drewN ?_ _ | refine blk_drew ?_ | refine blk_alloc ?_ _)); refine blk_put (cs := #[.int .i64 a0, .int .i64 b0, .string (⟨#[]⟩ : ByteArray)]) ?_ 2 _ rfl; (with_reducible repeat (first | refine blk_drewN ?_ _ | refine blk_drew ?_ | refine blk_alloc ?_ _)); refine blk_put (cs := #[.int .i64 a0, .int .i64 0, .string (⟨#[]⟩ : ByteArray)]) ?_ 1 _ rfl; (with_reducible repeat (first | refine blk_drewN ?_ _ | refine blk_drew ?_ | refine blk_alloc ?_ _)); refine blk_put (cs := #[.int .i64 0, .int .i64 0, .string (⟨#[]⟩ : ByteArray)]) ?_ 0 _ rfl; (with_reducible repeat (first | refine blk_drewN ?_ _ | refine blk_drew ?_ | refine blk_alloc ?_ _)); exact BKgu.out) hb)
            have n3_ := Aside0.mk (below_step (by repeat (first | (with_reducible first | exact HB.out | apply below_alloc | apply pw_below_drewN | apply below_drew1 | refine below_set ?_ GEgn.out | refine below_set ?_ GEgy.out | refine below_set ?_ GEgu.out) | exact HB.out)) hb)
            clear BKgn
            clear BKgy
            clear BKgu
            clear HB
            have BKgn := n0_; clear n0_
            have BKgy := n1_; clear n1_
            have BKgu := n2_; clear n2_
            have HB := n3_; clear n3_
            (try clear hb)
            have hcz527 : v12.cell? ⟨gn, 0, none⟩ = some (.int .i64 n0) := (blk_cell BKgn.out 0).trans rfl
            have hfz527 := blk_frozen BKgn.out 0
            have hcz528 : v12.cell? ⟨gn, 1, none⟩ = some (.int .i64 n1) := (blk_cell BKgn.out 1).trans rfl
            have hfz528 := blk_frozen BKgn.out 1
            have hcz529 : v12.cell? ⟨gn, 2, none⟩ = some (.int .i64 n2) := (blk_cell BKgn.out 2).trans rfl
            have hfz529 := blk_frozen BKgn.out 2
            have hcz530 : v12.cell? ⟨gy, 0, none⟩ = some (.int .u8 (y0.toNat : Int)) := (blk_cell BKgy.out 0).trans rfl
            have hfz530 := blk_frozen BKgy.out 0
            have hcz531 : v12.cell? ⟨gy, 1, none⟩ = some (.int .u8 (y1.toNat : Int)) := (blk_cell BKgy.out 1).trans rfl
            have hfz531 := blk_frozen BKgy.out 1
            have hcz532 : v12.cell? ⟨gy, 2, none⟩ = some (.int .u8 (y2.toNat : Int)) := (blk_cell BKgy.out 2).trans rfl
            have hfz532 := blk_frozen BKgy.out 2
            have hcz533 : v12.cell? ⟨gy, 3, none⟩ = some (.int .u8 (y3.toNat : Int)) := (blk_cell BKgy.out 3).trans rfl
            have hfz533 := blk_frozen BKgy.out 3
            have hcz534 : v12.cell? ⟨gu, 0, none⟩ = some (.int .i64 a0) := (blk_cell BKgu.out 0).trans rfl
            have hfz534 := blk_frozen BKgu.out 0
            have hcz535 : v12.cell? ⟨gu, 1, none⟩ = some (.int .i64 b0) := (blk_cell BKgu.out 1).trans rfl
            have hfz535 := blk_frozen BKgu.out 1
            have hcz536 : v12.cell? ⟨gu, 2, none⟩ = some (.string c0) := (blk_cell BKgu.out 2).trans rfl
            have hfz536 := blk_frozen BKgu.out 2
            go_wp2_with fail
            go_ret
            exact ⟨rfl, by repeat (first | (with_reducible first | exact HB.out | apply below_alloc | apply pw_below_drewN | apply below_drew1 | refine below_set ?_ GEgn.out | refine below_set ?_ GEgy.out | refine below_set ?_ GEgu.out) | exact HB.out)⟩
          · have hcr : ¬ rightP T := by
              intro hr
              have hp := HpS.out
              have e1 : T.extract 0 252 = txt m := by apply str_ext; rw [hT]; exact ext_left m tl Hml.out
              have e2 : S.extract 0 252 = txt M0 := by rw [show S = txt (M0 ++ tl) from str_ext (by rw [txt_data]; exact HL0.out.symm)]; apply str_ext; exact ext_left M0 tl HM0n.out
              have e3 : T.extract 252 256 = S.extract 252 256 := by rw [show S = txt (M0 ++ tl) from str_ext (by rw [txt_data]; exact HL0.out.symm), hT, ext_right m tl Hml.out Htn.out, ext_right M0 tl HM0n.out Htn.out]
              have h1 := hr.2
              have h2 := (page_right hp).2
              rw [e1, e3, h2, e2] at h1
              refine hd ((Crc.burst4 M0 m [y0, y1, y2, y3] k rfl (by rw [HM0n.out]; omega) (by rw [Hml.out, HM0n.out]) hle4).1 ?_)
              unfold crcI at h1
              rw [txt_data, txt_data] at h1
              omega
            have CGT := Lib.hid fun W hG => get_c T n0 W hG
            rw [get_neg (fun a b pl h => hcr (page_right h))] at CGT; dsimp only at CGT
            have CRT := Lib.hid fun W hG => right_c T W hG
            rw [decide_eq_false hcr] at CRT
            have hq := four_ne y0 y1 y2 y3 hd
            clear hd hcr hT hle4 hi4
            go_wp2_with fail
            rw [Hcv.out _ hR]
            go_wp2_with fail
            with_reducible refine (CGT.out _ (Glob.below HG.out (by repeat (first | (with_reducible first | exact HB.out | apply below_alloc | apply pw_below_drewN | apply below_drew1 | refine below_set ?_ GEgn.out | refine below_set ?_ GEgy.out) | exact HB.out)))).mono ?_
            rintro e v10 ⟨rfl, hb⟩
            have hR := hR.below Hpos.out hb
            have n0_ := Aside0.mk (blk_below (g := gn) (o := .cells #[.int .i64 n0, .int .i64 n1, .int .i64 n2] 36 (0, 0)) (by (with_reducible repeat (first | refine blk_drewN ?_ _ | refine blk_drew ?_ | refine blk_alloc ?_ _)); exact BKgn.out) hb)
            have n1_ := Aside0.mk (blk_below (g := gy) (o := .cells #[.int .u8 (y0.toNat : Int), .int .u8 (y1.toNat : Int), .int .u8 (y2.toNat : Int), .int .u8 (y3.toNat : Int)] 37 (0, 0)) (by (with_reducible repeat (first | refine blk_drewN ?_ _ | refine blk_drew ?_ | refine blk_alloc ?_ _)); exact BKgy.out) hb)
            have n2_ := Aside0.mk (below_step (by repeat (first | (with_reducible first | exact HB.out | apply below_alloc | apply pw_below_drewN | apply below_drew1 | refine below_set ?_ GEgn.out | refine below_set ?_ GEgy.out) | exact HB.out)) hb)
            clear BKgn
            clear BKgy
            clear HB
            have BKgn := n0_; clear n0_
            have BKgy := n1_; clear n1_
            have HB := n2_; clear n2_
            (try clear hb)
            have hcz508 : v10.cell? ⟨gn, 0, none⟩ = some (.int .i64 n0) := (blk_cell BKgn.out 0).trans rfl
            have hfz508 := blk_frozen BKgn.out 0
            have hcz509 : v10.cell? ⟨gn, 1, none⟩ = some (.int .i64 n1) := (blk_cell BKgn.out 1).trans rfl
            have hfz509 := blk_frozen BKgn.out 1
            have hcz510 : v10.cell? ⟨gn, 2, none⟩ = some (.int .i64 n2) := (blk_cell BKgn.out 2).trans rfl
            have hfz510 := blk_frozen BKgn.out 2
            have hcz511 : v10.cell? ⟨gy, 0, none⟩ = some (.int .u8 (y0.toNat : Int)) := (blk_cell BKgy.out 0).trans rfl
            have hfz511 := blk_frozen BKgy.out 0
            have hcz512 : v10.cell? ⟨gy, 1, none⟩ = some (.int .u8 (y1.toNat : Int)) := (blk_cell BKgy.out 1).trans rfl
            have hfz512 := blk_frozen BKgy.out 1
            have hcz513 : v10.cell? ⟨gy, 2, none⟩ = some (.int .u8 (y2.toNat : Int)) := (blk_cell BKgy.out 2).trans rfl
            have hfz513 := blk_frozen BKgy.out 2
            have hcz514 : v10.cell? ⟨gy, 3, none⟩ = some (.int .u8 (y3.toNat : Int)) := (blk_cell BKgy.out 3).trans rfl
            have hfz514 := blk_frozen BKgy.out 3
            go_wp2_with ((with_reducible refine gate_dst (N := 16) rfl ?_); (try (refine gate_guard (by rfl) ?_; dsimp only)); refine box_event ?hg (N := 16) ?hd (cs := #[.int .i64 0, .int .i64 0, .string (⟨#[]⟩ : ByteArray)]) (t := 23) ?hr ?_; (case hd => rfl); (case hg => rfl); (case hr => first | (go_simp; done) | (go_simp; rfl)); intro gu hg v11 hbox hb; have n0_ := Aside0.mk (by rw [hg]; exact Nat.ne_of_lt (blk_lt (g := gn) (o := .cells #[.int .i64 n0, .int .i64 n1, .int .i64 n2] 36 (0, 0)) (by (with_reducible repeat (first | refine blk_drewN ?_ _ | refine blk_drew ?_ | refine blk_alloc ?_ _)); exact BKgn.out)) : gn ≠ gu); have n1_ := Aside0.mk (by rw [hg]; exact Nat.ne_of_gt (blk_lt (g := gn) (o := .cells #[.int .i64 n0, .int .i64 n1, .int .i64 n2] 36 (0, 0)) (by (with_reducible repeat (first | refine blk_drewN ?_ _ | refine blk_drew ?_ | refine blk_alloc ?_ _)); exact BKgn.out)) : gu ≠ gn); have n2_ := Aside0.mk (by rw [hg]; exact Nat.ne_of_lt (blk_lt (g := gy) (o := .cells #[.int .u8 (y0.toNat : Int), .int .u8 (y1.toNat : Int), .int .u8 (y2.toNat : Int), .int .u8 (y3.toNat : Int)] 37 (0, 0)) (by (with_reducible repeat (first | refine blk_drewN ?_ _ | refine blk_drew ?_ | refine blk_alloc ?_ _)); exact BKgy.out)) : gy ≠ gu); have n3_ := Aside0.mk (by rw [hg]; exact Nat.ne_of_gt (blk_lt (g := gy) (o := .cells #[.int .u8 (y0.toNat : Int), .int .u8 (y1.toNat : Int), .int .u8 (y2.toNat : Int), .int .u8 (y3.toNat : Int)] 37 (0, 0)) (by (with_reducible repeat (first | refine blk_drewN ?_ _ | refine blk_drew ?_ | refine blk_alloc ?_ _)); exact BKgy.out)) : gu ≠ gy); have n4_ := Aside0.mk (by rw [hg]; exact below_size (by repeat (first | (with_reducible first | exact HB.out | apply below_alloc | apply pw_below_drewN | apply below_drew1 | refine below_set ?_ GEgn.out | refine below_set ?_ GEgy.out) | exact HB.out)) : w.heap.size ≤ gu); have n5_ := Aside0.mk (blk_below (g := gn) (o := .cells #[.int .i64 n0, .int .i64 n1, .int .i64 n2] 36 (0, 0)) (by (with_reducible repeat (first | refine blk_drewN ?_ _ | refine blk_drew ?_ | refine blk_alloc ?_ _)); exact BKgn.out) hb); have n6_ := Aside0.mk (blk_below (g := gy) (o := .cells #[.int .u8 (y0.toNat : Int), .int .u8 (y1.toNat : Int), .int .u8 (y2.toNat : Int), .int .u8 (y3.toNat : Int)] 37 (0, 0)) (by (with_reducible repeat (first | refine blk_drewN ?_ _ | refine blk_drew ?_ | refine blk_alloc ?_ _)); exact BKgy.out) hb); have n7_ := Aside0.mk (below_step (by repeat (first | (with_reducible first | exact HB.out | apply below_alloc | apply pw_below_drewN | apply below_drew1 | refine below_set ?_ GEgn.out | refine below_set ?_ GEgy.out) | exact HB.out)) hb); have n8_ := Aside0.mk hbox; clear BKgn; clear BKgy; clear HB; have NBgn_gu := n0_; clear n0_; have NBgu_gn := n1_; clear n1_; have NBgy_gu := n2_; clear n2_; have NBgu_gy := n3_; clear n3_; have GEgu := n4_; clear n4_; have BKgn := n5_; clear n5_; have BKgy := n6_; clear n6_; have HB := n7_; clear n7_; have BKgu := n8_; clear n8_; have hgB := Nat.ne_of_lt (hR.lt Hpos.out); rw [← hg] at hgB; have hR1 := hR.below Hpos.out hb; have hR2 := ((hR1.far hgB (p := ⟨gu, 0, none⟩) (.int .i64 0)).far hgB (p := ⟨gu, 1, none⟩) (.int .i64 0)).far hgB (p := ⟨gu, 2, none⟩) (.string (⟨#[]⟩ : ByteArray)); clear hb hbox hg; have hnb515 := NBgn_gu.out; have hnc515 := NBgu_gn.out; have hnb516 := NBgy_gu.out; have hnc516 := NBgu_gy.out; have hcz517 : v11.cell? ⟨gn, 0, none⟩ = some (.int .i64 n0) := (blk_cell BKgn.out 0).trans rfl; have hfz517 := blk_frozen BKgn.out 0; have hcz518 : v11.cell? ⟨gn, 1, none⟩ = some (.int .i64 n1) := (blk_cell BKgn.out 1).trans rfl; have hfz518 := blk_frozen BKgn.out 1; have hcz519 : v11.cell? ⟨gn, 2, none⟩ = some (.int .i64 n2) := (blk_cell BKgn.out 2).trans rfl; have hfz519 := blk_frozen BKgn.out 2; have hcz520 : v11.cell? ⟨gy, 0, none⟩ = some (.int .u8 (y0.toNat : Int)) := (blk_cell BKgy.out 0).trans rfl; have hfz520 := blk_frozen BKgy.out 0; have hcz521 : v11.cell? ⟨gy, 1, none⟩ = some (.int .u8 (y1.toNat : Int)) := (blk_cell BKgy.out 1).trans rfl; have hfz521 := blk_frozen BKgy.out 1; have hcz522 : v11.cell? ⟨gy, 2, none⟩ = some (.int .u8 (y2.toNat : Int)) := (blk_cell BKgy.out 2).trans rfl; have hfz522 := blk_frozen BKgy.out 2; have hcz523 : v11.cell? ⟨gy, 3, none⟩ = some (.int .u8 (y3.toNat : Int)) := (blk_cell BKgy.out 3).trans rfl; have hfz523 := blk_frozen BKgy.out 3; have hcz524 : v11.cell? ⟨gu, 0, none⟩ = some (.int .i64 0) := (blk_cell BKgu.out 0).trans rfl; have hfz524 := blk_frozen BKgu.out 0; have hcz525 : v11.cell? ⟨gu, 1, none⟩ = some (.int .i64 0) := (blk_cell BKgu.out 1).trans rfl; have hfz525 := blk_frozen BKgu.out 1; have hcz526 : v11.cell? ⟨gu, 2, none⟩ = some (.string (⟨#[]⟩ : ByteArray)) := (blk_cell BKgu.out 2).trans rfl; have hfz526 := blk_frozen BKgu.out 2)
            rw [PagE.eq4, hq]; simp only [Result.andThen_ok]
            go_wp2_with fail
            rw [Hcv.out _ hR2]
            go_wp2_with fail
            with_reducible refine (CRT.out _ (Glob.below HG.out (by repeat (first | (with_reducible first | exact HB.out | apply below_alloc | apply pw_below_drewN | apply below_drew1 | refine below_set ?_ GEgn.out | refine below_set ?_ GEgy.out | refine below_set ?_ GEgu.out) | exact HB.out)))).mono ?_
            rintro e v12 ⟨rfl, hb⟩
            have n0_ := Aside0.mk (blk_below (g := gn) (o := .cells #[.int .i64 n0, .int .i64 n1, .int .i64 n2] 36 (0, 0)) (by (with_reducible repeat (first | refine blk_drewN ?_ _ | refine blk_drew ?_ | refine blk_alloc ?_ _)); refine blk_far ?_ NBgn_gu.out _; (with_reducible repeat (first | refine blk_drewN ?_ _ | refine blk_drew ?_ | refine blk_alloc ?_ _)); refine blk_far ?_ NBgn_gu.out _; (with_reducible repeat (first | refine blk_drewN ?_ _ | refine blk_drew ?_ | refine blk_alloc ?_ _)); refine blk_far ?_ NBgn_gu.out _; (with_reducible repeat (first | refine blk_drewN ?_ _ | refine blk_drew ?_ | refine blk_alloc ?_ _)); exact BKgn.out) hb)
            have n1_ := Aside0.mk (blk_below (g := gy) (o := .cells #[.int .u8 (y0.toNat : Int), .int .u8 (y1.toNat : Int), .int .u8 (y2.toNat : Int), .int .u8 (y3.toNat : Int)] 37 (0, 0)) (by (with_reducible repeat (first | refine blk_drewN ?_ _ | refine blk_drew ?_ | refine blk_alloc ?_ _)); refine blk_far ?_ NBgy_gu.out _; (with_reducible repeat (first | refine blk_drewN ?_ _ | refine blk_drew ?_ | refine blk_alloc ?_ _)); refine blk_far ?_ NBgy_gu.out _; (with_reducible repeat (first | refine blk_drewN ?_ _ | refine blk_drew ?_ | refine blk_alloc ?_ _)); refine blk_far ?_ NBgy_gu.out _; (with_reducible repeat (first | refine blk_drewN ?_ _ | refine blk_drew ?_ | refine blk_alloc ?_ _)); exact BKgy.out) hb)
            have n2_ := Aside0.mk (blk_below (g := gu) (o := .cells #[.int .i64 0, .int .i64 0, .string (⟨#[]⟩ : ByteArray)] 23 (0, 0)) (by (with_reducible repeat (first | refine blk_drewN ?_ _ | refine blk_drew ?_ | refine blk_alloc ?_ _)); refine blk_put (cs := #[.int .i64 0, .int .i64 0, .string (⟨#[]⟩ : ByteArray)]) ?_ 2 _ rfl; (with_reducible repeat (first | refine blk_drewN ?_ _ | refine blk_drew ?_ | refine blk_alloc ?_ _)); refine blk_put (cs := #[.int .i64 0, .int .i64 0, .string (⟨#[]⟩ : ByteArray)]) ?_ 1 _ rfl; (with_reducible repeat (first | refine blk_drewN ?_ _ | refine blk_drew ?_ | refine blk_alloc ?_ _)); refine blk_put (cs := #[.int .i64 0, .int .i64 0, .string (⟨#[]⟩ : ByteArray)]) ?_ 0 _ rfl; (with_reducible repeat (first | refine blk_drewN ?_ _ | refine blk_drew ?_ | refine blk_alloc ?_ _)); exact BKgu.out) hb)
            have n3_ := Aside0.mk (below_step (by repeat (first | (with_reducible first | exact HB.out | apply below_alloc | apply pw_below_drewN | apply below_drew1 | refine below_set ?_ GEgn.out | refine below_set ?_ GEgy.out | refine below_set ?_ GEgu.out) | exact HB.out)) hb)
            clear BKgn
            clear BKgy
            clear BKgu
            clear HB
            have BKgn := n0_; clear n0_
            have BKgy := n1_; clear n1_
            have BKgu := n2_; clear n2_
            have HB := n3_; clear n3_
            (try clear hb)
            have hcz527 : v12.cell? ⟨gn, 0, none⟩ = some (.int .i64 n0) := (blk_cell BKgn.out 0).trans rfl
            have hfz527 := blk_frozen BKgn.out 0
            have hcz528 : v12.cell? ⟨gn, 1, none⟩ = some (.int .i64 n1) := (blk_cell BKgn.out 1).trans rfl
            have hfz528 := blk_frozen BKgn.out 1
            have hcz529 : v12.cell? ⟨gn, 2, none⟩ = some (.int .i64 n2) := (blk_cell BKgn.out 2).trans rfl
            have hfz529 := blk_frozen BKgn.out 2
            have hcz530 : v12.cell? ⟨gy, 0, none⟩ = some (.int .u8 (y0.toNat : Int)) := (blk_cell BKgy.out 0).trans rfl
            have hfz530 := blk_frozen BKgy.out 0
            have hcz531 : v12.cell? ⟨gy, 1, none⟩ = some (.int .u8 (y1.toNat : Int)) := (blk_cell BKgy.out 1).trans rfl
            have hfz531 := blk_frozen BKgy.out 1
            have hcz532 : v12.cell? ⟨gy, 2, none⟩ = some (.int .u8 (y2.toNat : Int)) := (blk_cell BKgy.out 2).trans rfl
            have hfz532 := blk_frozen BKgy.out 2
            have hcz533 : v12.cell? ⟨gy, 3, none⟩ = some (.int .u8 (y3.toNat : Int)) := (blk_cell BKgy.out 3).trans rfl
            have hfz533 := blk_frozen BKgy.out 3
            have hcz534 : v12.cell? ⟨gu, 0, none⟩ = some (.int .i64 0) := (blk_cell BKgu.out 0).trans rfl
            have hfz534 := blk_frozen BKgu.out 0
            have hcz535 : v12.cell? ⟨gu, 1, none⟩ = some (.int .i64 0) := (blk_cell BKgu.out 1).trans rfl
            have hfz535 := blk_frozen BKgu.out 1
            have hcz536 : v12.cell? ⟨gu, 2, none⟩ = some (.string (⟨#[]⟩ : ByteArray)) := (blk_cell BKgu.out 2).trans rfl
            have hfz536 := blk_frozen BKgu.out 2
            go_wp2_with fail
            with_reducible refine (CW.out _ (Glob.below HG.out (by repeat (first | (with_reducible first | exact HB.out | apply below_alloc | apply pw_below_drewN | apply below_drew1 | refine below_set ?_ GEgn.out | refine below_set ?_ GEgy.out | refine below_set ?_ GEgu.out) | exact HB.out)))).mono ?_
            rintro e v13 ⟨rfl, hb⟩
            have n0_ := Aside0.mk (blk_below (g := gn) (o := .cells #[.int .i64 n0, .int .i64 n1, .int .i64 n2] 36 (0, 0)) (by (with_reducible repeat (first | refine blk_drewN ?_ _ | refine blk_drew ?_ | refine blk_alloc ?_ _)); exact BKgn.out) hb)
            have n1_ := Aside0.mk (blk_below (g := gy) (o := .cells #[.int .u8 (y0.toNat : Int), .int .u8 (y1.toNat : Int), .int .u8 (y2.toNat : Int), .int .u8 (y3.toNat : Int)] 37 (0, 0)) (by (with_reducible repeat (first | refine blk_drewN ?_ _ | refine blk_drew ?_ | refine blk_alloc ?_ _)); exact BKgy.out) hb)
            have n2_ := Aside0.mk (blk_below (g := gu) (o := .cells #[.int .i64 0, .int .i64 0, .string (⟨#[]⟩ : ByteArray)] 23 (0, 0)) (by (with_reducible repeat (first | refine blk_drewN ?_ _ | refine blk_drew ?_ | refine blk_alloc ?_ _)); exact BKgu.out) hb)
            have n3_ := Aside0.mk (below_step (by repeat (first | (with_reducible first | exact HB.out | apply below_alloc | apply pw_below_drewN | apply below_drew1 | refine below_set ?_ GEgn.out | refine below_set ?_ GEgy.out | refine below_set ?_ GEgu.out) | exact HB.out)) hb)
            clear BKgn
            clear BKgy
            clear BKgu
            clear HB
            have BKgn := n0_; clear n0_
            have BKgy := n1_; clear n1_
            have BKgu := n2_; clear n2_
            have HB := n3_; clear n3_
            (try clear hb)
            have hcz537 : v13.cell? ⟨gn, 0, none⟩ = some (.int .i64 n0) := (blk_cell BKgn.out 0).trans rfl
            have hfz537 := blk_frozen BKgn.out 0
            have hcz538 : v13.cell? ⟨gn, 1, none⟩ = some (.int .i64 n1) := (blk_cell BKgn.out 1).trans rfl
            have hfz538 := blk_frozen BKgn.out 1
            have hcz539 : v13.cell? ⟨gn, 2, none⟩ = some (.int .i64 n2) := (blk_cell BKgn.out 2).trans rfl
            have hfz539 := blk_frozen BKgn.out 2
            have hcz540 : v13.cell? ⟨gy, 0, none⟩ = some (.int .u8 (y0.toNat : Int)) := (blk_cell BKgy.out 0).trans rfl
            have hfz540 := blk_frozen BKgy.out 0
            have hcz541 : v13.cell? ⟨gy, 1, none⟩ = some (.int .u8 (y1.toNat : Int)) := (blk_cell BKgy.out 1).trans rfl
            have hfz541 := blk_frozen BKgy.out 1
            have hcz542 : v13.cell? ⟨gy, 2, none⟩ = some (.int .u8 (y2.toNat : Int)) := (blk_cell BKgy.out 2).trans rfl
            have hfz542 := blk_frozen BKgy.out 2
            have hcz543 : v13.cell? ⟨gy, 3, none⟩ = some (.int .u8 (y3.toNat : Int)) := (blk_cell BKgy.out 3).trans rfl
            have hfz543 := blk_frozen BKgy.out 3
            have hcz544 : v13.cell? ⟨gu, 0, none⟩ = some (.int .i64 0) := (blk_cell BKgu.out 0).trans rfl
            have hfz544 := blk_frozen BKgu.out 0
            have hcz545 : v13.cell? ⟨gu, 1, none⟩ = some (.int .i64 0) := (blk_cell BKgu.out 1).trans rfl
            have hfz545 := blk_frozen BKgu.out 1
            have hcz546 : v13.cell? ⟨gu, 2, none⟩ = some (.string (⟨#[]⟩ : ByteArray)) := (blk_cell BKgu.out 2).trans rfl
            have hfz546 := blk_frozen BKgu.out 2
            go_wp2_with fail
            go_ret
            exact ⟨rfl, by repeat (first | (with_reducible first | exact HB.out | apply below_alloc | apply pw_below_drewN | apply below_drew1 | refine below_set ?_ GEgn.out | refine below_set ?_ GEgy.out | refine below_set ?_ GEgu.out) | exact HB.out)⟩
    · skip
      have hg1 := get_other hpS h1
      rw [hg1] at CG1; dsimp only at CG1; clear hg1
      have hn1 : (n1 == n0) = false := by simp [h1]
      clear h1 hpS
      go_enter Tryd.func4, Tryd.ntmps4
      go_wp2_with (first | ((with_reducible refine gate_dst (N := 3) rfl ?_); (try (refine gate_guard (by rfl) ?_; dsimp only)); refine box_event ?hg (N := 3) ?hd (cs := #[.int .i64 a0, .int .i64 b0, .string c0]) (t := 23) ?hr ?_; (case hd => rfl); (case hg => rfl); (case hr => first | (go_simp; done) | (go_simp; rfl)); intro gp hg v1 hbox hb; have n0_ := Aside0.mk (by rw [hg]; exact below_size (by repeat (first | (with_reducible first | exact HB.out | apply below_alloc | apply pw_below_drewN | apply below_drew1) | exact HB.out)) : w.heap.size ≤ gp); have n1_ := Aside0.mk (below_step (by repeat (first | (with_reducible first | exact HB.out | apply below_alloc | apply pw_below_drewN | apply below_drew1) | exact HB.out)) hb); have n2_ := Aside0.mk hbox; clear HB; have GEgp := n0_; clear n0_; have HB := n1_; clear n1_; have BKgp := n2_; clear n2_; clear hb hbox hg; have hcz1 : v1.cell? ⟨gp, 0, none⟩ = some (.int .i64 a0) := (blk_cell BKgp.out 0).trans rfl; have hfz1 := blk_frozen BKgp.out 0; have hcz2 : v1.cell? ⟨gp, 1, none⟩ = some (.int .i64 b0) := (blk_cell BKgp.out 1).trans rfl; have hfz2 := blk_frozen BKgp.out 1; have hcz3 : v1.cell? ⟨gp, 2, none⟩ = some (.string c0) := (blk_cell BKgp.out 2).trans rfl; have hfz3 := blk_frozen BKgp.out 2) | ((with_reducible refine gate_dst (N := 4) rfl ?_); (try (refine gate_guard (by rfl) ?_; dsimp only)); refine box_event ?hg (N := 4) ?hd (cs := #[.int .i64 n0, .int .i64 n1, .int .i64 n2]) (t := 36) ?hr ?_; (case hd => rfl); (case hg => rfl); (case hr => first | (go_simp; done) | (go_simp; rfl)); intro gn hg v2 hbox hb; have n0_ := Aside0.mk (by rw [hg]; exact Nat.ne_of_lt (blk_lt (g := gp) (o := .cells #[.int .i64 a0, .int .i64 b0, .string c0] 23 (0, 0)) (by (with_reducible repeat (first | refine blk_drewN ?_ _ | refine blk_drew ?_ | refine blk_alloc ?_ _)); exact BKgp.out)) : gp ≠ gn); have n1_ := Aside0.mk (by rw [hg]; exact Nat.ne_of_gt (blk_lt (g := gp) (o := .cells #[.int .i64 a0, .int .i64 b0, .string c0] 23 (0, 0)) (by (with_reducible repeat (first | refine blk_drewN ?_ _ | refine blk_drew ?_ | refine blk_alloc ?_ _)); exact BKgp.out)) : gn ≠ gp); have n2_ := Aside0.mk (by rw [hg]; exact below_size (by repeat (first | (with_reducible first | exact HB.out | apply below_alloc | apply pw_below_drewN | apply below_drew1 | refine below_set ?_ GEgp.out) | exact HB.out)) : w.heap.size ≤ gn); have n3_ := Aside0.mk (blk_below (g := gp) (o := .cells #[.int .i64 a0, .int .i64 b0, .string c0] 23 (0, 0)) (by (with_reducible repeat (first | refine blk_drewN ?_ _ | refine blk_drew ?_ | refine blk_alloc ?_ _)); exact BKgp.out) hb); have n4_ := Aside0.mk (below_step (by repeat (first | (with_reducible first | exact HB.out | apply below_alloc | apply pw_below_drewN | apply below_drew1 | refine below_set ?_ GEgp.out) | exact HB.out)) hb); have n5_ := Aside0.mk hbox; clear BKgp; clear HB; have NBgp_gn := n0_; clear n0_; have NBgn_gp := n1_; clear n1_; have GEgn := n2_; clear n2_; have BKgp := n3_; clear n3_; have HB := n4_; clear n4_; have BKgn := n5_; clear n5_; clear hb hbox hg; have hnb4 := NBgp_gn.out; have hnc4 := NBgn_gp.out; have hcz5 : v2.cell? ⟨gp, 0, none⟩ = some (.int .i64 a0) := (blk_cell BKgp.out 0).trans rfl; have hfz5 := blk_frozen BKgp.out 0; have hcz6 : v2.cell? ⟨gp, 1, none⟩ = some (.int .i64 b0) := (blk_cell BKgp.out 1).trans rfl; have hfz6 := blk_frozen BKgp.out 1; have hcz7 : v2.cell? ⟨gp, 2, none⟩ = some (.string c0) := (blk_cell BKgp.out 2).trans rfl; have hfz7 := blk_frozen BKgp.out 2; have hcz8 : v2.cell? ⟨gn, 0, none⟩ = some (.int .i64 n0) := (blk_cell BKgn.out 0).trans rfl; have hfz8 := blk_frozen BKgn.out 0; have hcz9 : v2.cell? ⟨gn, 1, none⟩ = some (.int .i64 n1) := (blk_cell BKgn.out 1).trans rfl; have hfz9 := blk_frozen BKgn.out 1; have hcz10 : v2.cell? ⟨gn, 2, none⟩ = some (.int .i64 n2) := (blk_cell BKgn.out 2).trans rfl; have hfz10 := blk_frozen BKgn.out 2) | ((with_reducible refine gate_dst (N := 5) rfl ?_); (try (refine gate_guard (by rfl) ?_; dsimp only)); refine box_event ?hg (N := 5) ?hd (cs := #[.int .u8 (y0.toNat : Int), .int .u8 (y1.toNat : Int), .int .u8 (y2.toNat : Int), .int .u8 (y3.toNat : Int)]) (t := 37) ?hr ?_; (case hd => rfl); (case hg => rfl); (case hr => first | (go_simp; done) | (go_simp; rfl)); intro gy hg v3 hbox hb; have n0_ := Aside0.mk (by rw [hg]; exact Nat.ne_of_lt (blk_lt (g := gp) (o := .cells #[.int .i64 a0, .int .i64 b0, .string c0] 23 (0, 0)) (by (with_reducible repeat (first | refine blk_drewN ?_ _ | refine blk_drew ?_ | refine blk_alloc ?_ _)); exact BKgp.out)) : gp ≠ gy); have n1_ := Aside0.mk (by rw [hg]; exact Nat.ne_of_gt (blk_lt (g := gp) (o := .cells #[.int .i64 a0, .int .i64 b0, .string c0] 23 (0, 0)) (by (with_reducible repeat (first | refine blk_drewN ?_ _ | refine blk_drew ?_ | refine blk_alloc ?_ _)); exact BKgp.out)) : gy ≠ gp); have n2_ := Aside0.mk (by rw [hg]; exact Nat.ne_of_lt (blk_lt (g := gn) (o := .cells #[.int .i64 n0, .int .i64 n1, .int .i64 n2] 36 (0, 0)) (by (with_reducible repeat (first | refine blk_drewN ?_ _ | refine blk_drew ?_ | refine blk_alloc ?_ _)); exact BKgn.out)) : gn ≠ gy); have n3_ := Aside0.mk (by rw [hg]; exact Nat.ne_of_gt (blk_lt (g := gn) (o := .cells #[.int .i64 n0, .int .i64 n1, .int .i64 n2] 36 (0, 0)) (by (with_reducible repeat (first | refine blk_drewN ?_ _ | refine blk_drew ?_ | refine blk_alloc ?_ _)); exact BKgn.out)) : gy ≠ gn); have n4_ := Aside0.mk (by rw [hg]; exact below_size (by repeat (first | (with_reducible first | exact HB.out | apply below_alloc | apply pw_below_drewN | apply below_drew1 | refine below_set ?_ GEgp.out | refine below_set ?_ GEgn.out) | exact HB.out)) : w.heap.size ≤ gy); have n5_ := Aside0.mk (blk_below (g := gp) (o := .cells #[.int .i64 a0, .int .i64 b0, .string c0] 23 (0, 0)) (by (with_reducible repeat (first | refine blk_drewN ?_ _ | refine blk_drew ?_ | refine blk_alloc ?_ _)); exact BKgp.out) hb); have n6_ := Aside0.mk (blk_below (g := gn) (o := .cells #[.int .i64 n0, .int .i64 n1, .int .i64 n2] 36 (0, 0)) (by (with_reducible repeat (first | refine blk_drewN ?_ _ | refine blk_drew ?_ | refine blk_alloc ?_ _)); exact BKgn.out) hb); have n7_ := Aside0.mk (below_step (by repeat (first | (with_reducible first | exact HB.out | apply below_alloc | apply pw_below_drewN | apply below_drew1 | refine below_set ?_ GEgp.out | refine below_set ?_ GEgn.out) | exact HB.out)) hb); have n8_ := Aside0.mk hbox; clear BKgp; clear BKgn; clear HB; have NBgp_gy := n0_; clear n0_; have NBgy_gp := n1_; clear n1_; have NBgn_gy := n2_; clear n2_; have NBgy_gn := n3_; clear n3_; have GEgy := n4_; clear n4_; have BKgp := n5_; clear n5_; have BKgn := n6_; clear n6_; have HB := n7_; clear n7_; have BKgy := n8_; clear n8_; clear hb hbox hg; have hnb11 := NBgp_gy.out; have hnc11 := NBgy_gp.out; have hnb12 := NBgn_gy.out; have hnc12 := NBgy_gn.out; have hcz13 : v3.cell? ⟨gp, 0, none⟩ = some (.int .i64 a0) := (blk_cell BKgp.out 0).trans rfl; have hfz13 := blk_frozen BKgp.out 0; have hcz14 : v3.cell? ⟨gp, 1, none⟩ = some (.int .i64 b0) := (blk_cell BKgp.out 1).trans rfl; have hfz14 := blk_frozen BKgp.out 1; have hcz15 : v3.cell? ⟨gp, 2, none⟩ = some (.string c0) := (blk_cell BKgp.out 2).trans rfl; have hfz15 := blk_frozen BKgp.out 2; have hcz16 : v3.cell? ⟨gn, 0, none⟩ = some (.int .i64 n0) := (blk_cell BKgn.out 0).trans rfl; have hfz16 := blk_frozen BKgn.out 0; have hcz17 : v3.cell? ⟨gn, 1, none⟩ = some (.int .i64 n1) := (blk_cell BKgn.out 1).trans rfl; have hfz17 := blk_frozen BKgn.out 1; have hcz18 : v3.cell? ⟨gn, 2, none⟩ = some (.int .i64 n2) := (blk_cell BKgn.out 2).trans rfl; have hfz18 := blk_frozen BKgn.out 2; have hcz19 : v3.cell? ⟨gy, 0, none⟩ = some (.int .u8 (y0.toNat : Int)) := (blk_cell BKgy.out 0).trans rfl; have hfz19 := blk_frozen BKgy.out 0; have hcz20 : v3.cell? ⟨gy, 1, none⟩ = some (.int .u8 (y1.toNat : Int)) := (blk_cell BKgy.out 1).trans rfl; have hfz20 := blk_frozen BKgy.out 1; have hcz21 : v3.cell? ⟨gy, 2, none⟩ = some (.int .u8 (y2.toNat : Int)) := (blk_cell BKgy.out 2).trans rfl; have hfz21 := blk_frozen BKgy.out 2; have hcz22 : v3.cell? ⟨gy, 3, none⟩ = some (.int .u8 (y3.toNat : Int)) := (blk_cell BKgy.out 3).trans rfl; have hfz22 := blk_frozen BKgy.out 3))
      with_reducible refine (CP.out _ (Glob.below HG.out (by repeat (first | (with_reducible first | exact HB.out | apply below_alloc | apply pw_below_drewN | apply below_drew1 | refine below_set ?_ GEgp.out | refine below_set ?_ GEgn.out | refine below_set ?_ GEgy.out) | exact HB.out)))).mono ?_
      rintro e v4 ⟨rfl, hb⟩
      have n0_ := Aside0.mk (blk_below (g := gp) (o := .cells #[.int .i64 a0, .int .i64 b0, .string c0] 23 (0, 0)) (by (with_reducible repeat (first | refine blk_drewN ?_ _ | refine blk_drew ?_ | refine blk_alloc ?_ _)); exact BKgp.out) hb)
      have n1_ := Aside0.mk (blk_below (g := gn) (o := .cells #[.int .i64 n0, .int .i64 n1, .int .i64 n2] 36 (0, 0)) (by (with_reducible repeat (first | refine blk_drewN ?_ _ | refine blk_drew ?_ | refine blk_alloc ?_ _)); exact BKgn.out) hb)
      have n2_ := Aside0.mk (blk_below (g := gy) (o := .cells #[.int .u8 (y0.toNat : Int), .int .u8 (y1.toNat : Int), .int .u8 (y2.toNat : Int), .int .u8 (y3.toNat : Int)] 37 (0, 0)) (by (with_reducible repeat (first | refine blk_drewN ?_ _ | refine blk_drew ?_ | refine blk_alloc ?_ _)); exact BKgy.out) hb)
      have n3_ := Aside0.mk (below_step (by repeat (first | (with_reducible first | exact HB.out | apply below_alloc | apply pw_below_drewN | apply below_drew1 | refine below_set ?_ GEgp.out | refine below_set ?_ GEgn.out | refine below_set ?_ GEgy.out) | exact HB.out)) hb)
      clear BKgp
      clear BKgn
      clear BKgy
      clear HB
      have BKgp := n0_; clear n0_
      have BKgn := n1_; clear n1_
      have BKgy := n2_; clear n2_
      have HB := n3_; clear n3_
      (try clear hb)
      have hcz23 : v4.cell? ⟨gp, 0, none⟩ = some (.int .i64 a0) := (blk_cell BKgp.out 0).trans rfl
      have hfz23 := blk_frozen BKgp.out 0
      have hcz24 : v4.cell? ⟨gp, 1, none⟩ = some (.int .i64 b0) := (blk_cell BKgp.out 1).trans rfl
      have hfz24 := blk_frozen BKgp.out 1
      have hcz25 : v4.cell? ⟨gp, 2, none⟩ = some (.string c0) := (blk_cell BKgp.out 2).trans rfl
      have hfz25 := blk_frozen BKgp.out 2
      have hcz26 : v4.cell? ⟨gn, 0, none⟩ = some (.int .i64 n0) := (blk_cell BKgn.out 0).trans rfl
      have hfz26 := blk_frozen BKgn.out 0
      have hcz27 : v4.cell? ⟨gn, 1, none⟩ = some (.int .i64 n1) := (blk_cell BKgn.out 1).trans rfl
      have hfz27 := blk_frozen BKgn.out 1
      have hcz28 : v4.cell? ⟨gn, 2, none⟩ = some (.int .i64 n2) := (blk_cell BKgn.out 2).trans rfl
      have hfz28 := blk_frozen BKgn.out 2
      have hcz29 : v4.cell? ⟨gy, 0, none⟩ = some (.int .u8 (y0.toNat : Int)) := (blk_cell BKgy.out 0).trans rfl
      have hfz29 := blk_frozen BKgy.out 0
      have hcz30 : v4.cell? ⟨gy, 1, none⟩ = some (.int .u8 (y1.toNat : Int)) := (blk_cell BKgy.out 1).trans rfl
      have hfz30 := blk_frozen BKgy.out 1
      have hcz31 : v4.cell? ⟨gy, 2, none⟩ = some (.int .u8 (y2.toNat : Int)) := (blk_cell BKgy.out 2).trans rfl
      have hfz31 := blk_frozen BKgy.out 2
      have hcz32 : v4.cell? ⟨gy, 3, none⟩ = some (.int .u8 (y3.toNat : Int)) := (blk_cell BKgy.out 3).trans rfl
      have hfz32 := blk_frozen BKgy.out 3
      go_wp2_with fail
      with_reducible refine (CG0.out _ (Glob.below HG.out (by repeat (first | (with_reducible first | exact HB.out | apply below_alloc | apply pw_below_drewN | apply below_drew1 | refine below_set ?_ GEgp.out | refine below_set ?_ GEgn.out | refine below_set ?_ GEgy.out) | exact HB.out)))).mono ?_
      rintro e v5 ⟨rfl, hb⟩
      have n0_ := Aside0.mk (blk_below (g := gp) (o := .cells #[.int .i64 a0, .int .i64 b0, .string c0] 23 (0, 0)) (by (with_reducible repeat (first | refine blk_drewN ?_ _ | refine blk_drew ?_ | refine blk_alloc ?_ _)); exact BKgp.out) hb)
      have n1_ := Aside0.mk (blk_below (g := gn) (o := .cells #[.int .i64 n0, .int .i64 n1, .int .i64 n2] 36 (0, 0)) (by (with_reducible repeat (first | refine blk_drewN ?_ _ | refine blk_drew ?_ | refine blk_alloc ?_ _)); exact BKgn.out) hb)
      have n2_ := Aside0.mk (blk_below (g := gy) (o := .cells #[.int .u8 (y0.toNat : Int), .int .u8 (y1.toNat : Int), .int .u8 (y2.toNat : Int), .int .u8 (y3.toNat : Int)] 37 (0, 0)) (by (with_reducible repeat (first | refine blk_drewN ?_ _ | refine blk_drew ?_ | refine blk_alloc ?_ _)); exact BKgy.out) hb)
      have n3_ := Aside0.mk (below_step (by repeat (first | (with_reducible first | exact HB.out | apply below_alloc | apply pw_below_drewN | apply below_drew1 | refine below_set ?_ GEgp.out | refine below_set ?_ GEgn.out | refine below_set ?_ GEgy.out) | exact HB.out)) hb)
      clear BKgp
      clear BKgn
      clear BKgy
      clear HB
      have BKgp := n0_; clear n0_
      have BKgn := n1_; clear n1_
      have BKgy := n2_; clear n2_
      have HB := n3_; clear n3_
      (try clear hb)
      have hcz33 : v5.cell? ⟨gp, 0, none⟩ = some (.int .i64 a0) := (blk_cell BKgp.out 0).trans rfl
      have hfz33 := blk_frozen BKgp.out 0
      have hcz34 : v5.cell? ⟨gp, 1, none⟩ = some (.int .i64 b0) := (blk_cell BKgp.out 1).trans rfl
      have hfz34 := blk_frozen BKgp.out 1
      have hcz35 : v5.cell? ⟨gp, 2, none⟩ = some (.string c0) := (blk_cell BKgp.out 2).trans rfl
      have hfz35 := blk_frozen BKgp.out 2
      have hcz36 : v5.cell? ⟨gn, 0, none⟩ = some (.int .i64 n0) := (blk_cell BKgn.out 0).trans rfl
      have hfz36 := blk_frozen BKgn.out 0
      have hcz37 : v5.cell? ⟨gn, 1, none⟩ = some (.int .i64 n1) := (blk_cell BKgn.out 1).trans rfl
      have hfz37 := blk_frozen BKgn.out 1
      have hcz38 : v5.cell? ⟨gn, 2, none⟩ = some (.int .i64 n2) := (blk_cell BKgn.out 2).trans rfl
      have hfz38 := blk_frozen BKgn.out 2
      have hcz39 : v5.cell? ⟨gy, 0, none⟩ = some (.int .u8 (y0.toNat : Int)) := (blk_cell BKgy.out 0).trans rfl
      have hfz39 := blk_frozen BKgy.out 0
      have hcz40 : v5.cell? ⟨gy, 1, none⟩ = some (.int .u8 (y1.toNat : Int)) := (blk_cell BKgy.out 1).trans rfl
      have hfz40 := blk_frozen BKgy.out 1
      have hcz41 : v5.cell? ⟨gy, 2, none⟩ = some (.int .u8 (y2.toNat : Int)) := (blk_cell BKgy.out 2).trans rfl
      have hfz41 := blk_frozen BKgy.out 2
      have hcz42 : v5.cell? ⟨gy, 3, none⟩ = some (.int .u8 (y3.toNat : Int)) := (blk_cell BKgy.out 3).trans rfl
      have hfz42 := blk_frozen BKgy.out 3
      go_wp2_with ((with_reducible refine gate_dst (N := 9) rfl ?_); (try (refine gate_guard (by rfl) ?_; dsimp only)); refine box_event ?hg (N := 9) ?hd (cs := #[.int .i64 0, .int .i64 0, .string (⟨#[]⟩ : ByteArray)]) (t := 23) ?hr ?_; (case hd => rfl); (case hg => rfl); (case hr => first | (go_simp; done) | (go_simp; rfl)); intro gq hg v6 hbox hb; have n0_ := Aside0.mk (by rw [hg]; exact Nat.ne_of_lt (blk_lt (g := gp) (o := .cells #[.int .i64 a0, .int .i64 b0, .string c0] 23 (0, 0)) (by (with_reducible repeat (first | refine blk_drewN ?_ _ | refine blk_drew ?_ | refine blk_alloc ?_ _)); exact BKgp.out)) : gp ≠ gq); have n1_ := Aside0.mk (by rw [hg]; exact Nat.ne_of_gt (blk_lt (g := gp) (o := .cells #[.int .i64 a0, .int .i64 b0, .string c0] 23 (0, 0)) (by (with_reducible repeat (first | refine blk_drewN ?_ _ | refine blk_drew ?_ | refine blk_alloc ?_ _)); exact BKgp.out)) : gq ≠ gp); have n2_ := Aside0.mk (by rw [hg]; exact Nat.ne_of_lt (blk_lt (g := gn) (o := .cells #[.int .i64 n0, .int .i64 n1, .int .i64 n2] 36 (0, 0)) (by (with_reducible repeat (first | refine blk_drewN ?_ _ | refine blk_drew ?_ | refine blk_alloc ?_ _)); exact BKgn.out)) : gn ≠ gq); have n3_ := Aside0.mk (by rw [hg]; exact Nat.ne_of_gt (blk_lt (g := gn) (o := .cells #[.int .i64 n0, .int .i64 n1, .int .i64 n2] 36 (0, 0)) (by (with_reducible repeat (first | refine blk_drewN ?_ _ | refine blk_drew ?_ | refine blk_alloc ?_ _)); exact BKgn.out)) : gq ≠ gn); have n4_ := Aside0.mk (by rw [hg]; exact Nat.ne_of_lt (blk_lt (g := gy) (o := .cells #[.int .u8 (y0.toNat : Int), .int .u8 (y1.toNat : Int), .int .u8 (y2.toNat : Int), .int .u8 (y3.toNat : Int)] 37 (0, 0)) (by (with_reducible repeat (first | refine blk_drewN ?_ _ | refine blk_drew ?_ | refine blk_alloc ?_ _)); exact BKgy.out)) : gy ≠ gq); have n5_ := Aside0.mk (by rw [hg]; exact Nat.ne_of_gt (blk_lt (g := gy) (o := .cells #[.int .u8 (y0.toNat : Int), .int .u8 (y1.toNat : Int), .int .u8 (y2.toNat : Int), .int .u8 (y3.toNat : Int)] 37 (0, 0)) (by (with_reducible repeat (first | refine blk_drewN ?_ _ | refine blk_drew ?_ | refine blk_alloc ?_ _)); exact BKgy.out)) : gq ≠ gy); have n6_ := Aside0.mk (by rw [hg]; exact below_size (by repeat (first | (with_reducible first | exact HB.out | apply below_alloc | apply pw_below_drewN | apply below_drew1 | refine below_set ?_ GEgp.out | refine below_set ?_ GEgn.out | refine below_set ?_ GEgy.out) | exact HB.out)) : w.heap.size ≤ gq); have n7_ := Aside0.mk (blk_below (g := gp) (o := .cells #[.int .i64 a0, .int .i64 b0, .string c0] 23 (0, 0)) (by (with_reducible repeat (first | refine blk_drewN ?_ _ | refine blk_drew ?_ | refine blk_alloc ?_ _)); exact BKgp.out) hb); have n8_ := Aside0.mk (blk_below (g := gn) (o := .cells #[.int .i64 n0, .int .i64 n1, .int .i64 n2] 36 (0, 0)) (by (with_reducible repeat (first | refine blk_drewN ?_ _ | refine blk_drew ?_ | refine blk_alloc ?_ _)); exact BKgn.out) hb); have n9_ := Aside0.mk (blk_below (g := gy) (o := .cells #[.int .u8 (y0.toNat : Int), .int .u8 (y1.toNat : Int), .int .u8 (y2.toNat : Int), .int .u8 (y3.toNat : Int)] 37 (0, 0)) (by (with_reducible repeat (first | refine blk_drewN ?_ _ | refine blk_drew ?_ | refine blk_alloc ?_ _)); exact BKgy.out) hb); have n10_ := Aside0.mk (below_step (by repeat (first | (with_reducible first | exact HB.out | apply below_alloc | apply pw_below_drewN | apply below_drew1 | refine below_set ?_ GEgp.out | refine below_set ?_ GEgn.out | refine below_set ?_ GEgy.out) | exact HB.out)) hb); have n11_ := Aside0.mk hbox; clear BKgp; clear BKgn; clear BKgy; clear HB; have NBgp_gq := n0_; clear n0_; have NBgq_gp := n1_; clear n1_; have NBgn_gq := n2_; clear n2_; have NBgq_gn := n3_; clear n3_; have NBgy_gq := n4_; clear n4_; have NBgq_gy := n5_; clear n5_; have GEgq := n6_; clear n6_; have BKgp := n7_; clear n7_; have BKgn := n8_; clear n8_; have BKgy := n9_; clear n9_; have HB := n10_; clear n10_; have BKgq := n11_; clear n11_; clear hb hbox hg; have hnb43 := NBgp_gq.out; have hnc43 := NBgq_gp.out; have hnb44 := NBgn_gq.out; have hnc44 := NBgq_gn.out; have hnb45 := NBgy_gq.out; have hnc45 := NBgq_gy.out; have hcz46 : v6.cell? ⟨gp, 0, none⟩ = some (.int .i64 a0) := (blk_cell BKgp.out 0).trans rfl; have hfz46 := blk_frozen BKgp.out 0; have hcz47 : v6.cell? ⟨gp, 1, none⟩ = some (.int .i64 b0) := (blk_cell BKgp.out 1).trans rfl; have hfz47 := blk_frozen BKgp.out 1; have hcz48 : v6.cell? ⟨gp, 2, none⟩ = some (.string c0) := (blk_cell BKgp.out 2).trans rfl; have hfz48 := blk_frozen BKgp.out 2; have hcz49 : v6.cell? ⟨gn, 0, none⟩ = some (.int .i64 n0) := (blk_cell BKgn.out 0).trans rfl; have hfz49 := blk_frozen BKgn.out 0; have hcz50 : v6.cell? ⟨gn, 1, none⟩ = some (.int .i64 n1) := (blk_cell BKgn.out 1).trans rfl; have hfz50 := blk_frozen BKgn.out 1; have hcz51 : v6.cell? ⟨gn, 2, none⟩ = some (.int .i64 n2) := (blk_cell BKgn.out 2).trans rfl; have hfz51 := blk_frozen BKgn.out 2; have hcz52 : v6.cell? ⟨gy, 0, none⟩ = some (.int .u8 (y0.toNat : Int)) := (blk_cell BKgy.out 0).trans rfl; have hfz52 := blk_frozen BKgy.out 0; have hcz53 : v6.cell? ⟨gy, 1, none⟩ = some (.int .u8 (y1.toNat : Int)) := (blk_cell BKgy.out 1).trans rfl; have hfz53 := blk_frozen BKgy.out 1; have hcz54 : v6.cell? ⟨gy, 2, none⟩ = some (.int .u8 (y2.toNat : Int)) := (blk_cell BKgy.out 2).trans rfl; have hfz54 := blk_frozen BKgy.out 2; have hcz55 : v6.cell? ⟨gy, 3, none⟩ = some (.int .u8 (y3.toNat : Int)) := (blk_cell BKgy.out 3).trans rfl; have hfz55 := blk_frozen BKgy.out 3; have hcz56 : v6.cell? ⟨gq, 0, none⟩ = some (.int .i64 0) := (blk_cell BKgq.out 0).trans rfl; have hfz56 := blk_frozen BKgq.out 0; have hcz57 : v6.cell? ⟨gq, 1, none⟩ = some (.int .i64 0) := (blk_cell BKgq.out 1).trans rfl; have hfz57 := blk_frozen BKgq.out 1; have hcz58 : v6.cell? ⟨gq, 2, none⟩ = some (.string (⟨#[]⟩ : ByteArray)) := (blk_cell BKgq.out 2).trans rfl; have hfz58 := blk_frozen BKgq.out 2)
      with_reducible refine (CG1.out _ (Glob.below HG.out (by repeat (first | (with_reducible first | exact HB.out | apply below_alloc | apply pw_below_drewN | apply below_drew1 | refine below_set ?_ GEgp.out | refine below_set ?_ GEgn.out | refine below_set ?_ GEgy.out | refine below_set ?_ GEgq.out) | exact HB.out)))).mono ?_
      rintro e v7 ⟨rfl, hb⟩
      have n0_ := Aside0.mk (blk_below (g := gp) (o := .cells #[.int .i64 a0, .int .i64 b0, .string c0] 23 (0, 0)) (by (with_reducible repeat (first | refine blk_drewN ?_ _ | refine blk_drew ?_ | refine blk_alloc ?_ _)); refine blk_far ?_ NBgp_gq.out _; (with_reducible repeat (first | refine blk_drewN ?_ _ | refine blk_drew ?_ | refine blk_alloc ?_ _)); refine blk_far ?_ NBgp_gq.out _; (with_reducible repeat (first | refine blk_drewN ?_ _ | refine blk_drew ?_ | refine blk_alloc ?_ _)); refine blk_far ?_ NBgp_gq.out _; (with_reducible repeat (first | refine blk_drewN ?_ _ | refine blk_drew ?_ | refine blk_alloc ?_ _)); exact BKgp.out) hb)
      have n1_ := Aside0.mk (blk_below (g := gn) (o := .cells #[.int .i64 n0, .int .i64 n1, .int .i64 n2] 36 (0, 0)) (by (with_reducible repeat (first | refine blk_drewN ?_ _ | refine blk_drew ?_ | refine blk_alloc ?_ _)); refine blk_far ?_ NBgn_gq.out _; (with_reducible repeat (first | refine blk_drewN ?_ _ | refine blk_drew ?_ | refine blk_alloc ?_ _)); refine blk_far ?_ NBgn_gq.out _; (with_reducible repeat (first | refine blk_drewN ?_ _ | refine blk_drew ?_ | refine blk_alloc ?_ _)); refine blk_far ?_ NBgn_gq.out _; (with_reducible repeat (first | refine blk_drewN ?_ _ | refine blk_drew ?_ | refine blk_alloc ?_ _)); exact BKgn.out) hb)
      have n2_ := Aside0.mk (blk_below (g := gy) (o := .cells #[.int .u8 (y0.toNat : Int), .int .u8 (y1.toNat : Int), .int .u8 (y2.toNat : Int), .int .u8 (y3.toNat : Int)] 37 (0, 0)) (by (with_reducible repeat (first | refine blk_drewN ?_ _ | refine blk_drew ?_ | refine blk_alloc ?_ _)); refine blk_far ?_ NBgy_gq.out _; (with_reducible repeat (first | refine blk_drewN ?_ _ | refine blk_drew ?_ | refine blk_alloc ?_ _)); refine blk_far ?_ NBgy_gq.out _; (with_reducible repeat (first | refine blk_drewN ?_ _ | refine blk_drew ?_ | refine blk_alloc ?_ _)); refine blk_far ?_ NBgy_gq.out _; (with_reducible repeat (first | refine blk_drewN ?_ _ | refine blk_drew ?_ | refine blk_alloc ?_ _)); exact BKgy.out) hb)
      have n3_ := Aside0.mk (blk_below (g := gq) (o := .cells #[.int .i64 a0, .int .i64 b0, .string c0] 23 (0, 0)) (by (with_reducible repeat (first | refine blk_drewN ?_ _ | refine blk_drew ?_ | refine blk_alloc ?_ _)); refine blk_put (cs := #[.int .i64 a0, .int .i64 b0, .string (⟨#[]⟩ : ByteArray)]) ?_ 2 _ rfl; (with_reducible repeat (first | refine blk_drewN ?_ _ | refine blk_drew ?_ | refine blk_alloc ?_ _)); refine blk_put (cs := #[.int .i64 a0, .int .i64 0, .string (⟨#[]⟩ : ByteArray)]) ?_ 1 _ rfl; (with_reducible repeat (first | refine blk_drewN ?_ _ | refine blk_drew ?_ | refine blk_alloc ?_ _)); refine blk_put (cs := #[.int .i64 0, .int .i64 0, .string (⟨#[]⟩ : ByteArray)]) ?_ 0 _ rfl; (with_reducible repeat (first | refine blk_drewN ?_ _ | refine blk_drew ?_ | refine blk_alloc ?_ _)); exact BKgq.out) hb)
      have n4_ := Aside0.mk (below_step (by repeat (first | (with_reducible first | exact HB.out | apply below_alloc | apply pw_below_drewN | apply below_drew1 | refine below_set ?_ GEgp.out | refine below_set ?_ GEgn.out | refine below_set ?_ GEgy.out | refine below_set ?_ GEgq.out) | exact HB.out)) hb)
      clear BKgp
      clear BKgn
      clear BKgy
      clear BKgq
      clear HB
      have BKgp := n0_; clear n0_
      have BKgn := n1_; clear n1_
      have BKgy := n2_; clear n2_
      have BKgq := n3_; clear n3_
      have HB := n4_; clear n4_
      (try clear hb)
      have hcz59 : v7.cell? ⟨gp, 0, none⟩ = some (.int .i64 a0) := (blk_cell BKgp.out 0).trans rfl
      have hfz59 := blk_frozen BKgp.out 0
      have hcz60 : v7.cell? ⟨gp, 1, none⟩ = some (.int .i64 b0) := (blk_cell BKgp.out 1).trans rfl
      have hfz60 := blk_frozen BKgp.out 1
      have hcz61 : v7.cell? ⟨gp, 2, none⟩ = some (.string c0) := (blk_cell BKgp.out 2).trans rfl
      have hfz61 := blk_frozen BKgp.out 2
      have hcz62 : v7.cell? ⟨gn, 0, none⟩ = some (.int .i64 n0) := (blk_cell BKgn.out 0).trans rfl
      have hfz62 := blk_frozen BKgn.out 0
      have hcz63 : v7.cell? ⟨gn, 1, none⟩ = some (.int .i64 n1) := (blk_cell BKgn.out 1).trans rfl
      have hfz63 := blk_frozen BKgn.out 1
      have hcz64 : v7.cell? ⟨gn, 2, none⟩ = some (.int .i64 n2) := (blk_cell BKgn.out 2).trans rfl
      have hfz64 := blk_frozen BKgn.out 2
      have hcz65 : v7.cell? ⟨gy, 0, none⟩ = some (.int .u8 (y0.toNat : Int)) := (blk_cell BKgy.out 0).trans rfl
      have hfz65 := blk_frozen BKgy.out 0
      have hcz66 : v7.cell? ⟨gy, 1, none⟩ = some (.int .u8 (y1.toNat : Int)) := (blk_cell BKgy.out 1).trans rfl
      have hfz66 := blk_frozen BKgy.out 1
      have hcz67 : v7.cell? ⟨gy, 2, none⟩ = some (.int .u8 (y2.toNat : Int)) := (blk_cell BKgy.out 2).trans rfl
      have hfz67 := blk_frozen BKgy.out 2
      have hcz68 : v7.cell? ⟨gy, 3, none⟩ = some (.int .u8 (y3.toNat : Int)) := (blk_cell BKgy.out 3).trans rfl
      have hfz68 := blk_frozen BKgy.out 3
      have hcz69 : v7.cell? ⟨gq, 0, none⟩ = some (.int .i64 a0) := (blk_cell BKgq.out 0).trans rfl
      have hfz69 := blk_frozen BKgq.out 0
      have hcz70 : v7.cell? ⟨gq, 1, none⟩ = some (.int .i64 b0) := (blk_cell BKgq.out 1).trans rfl
      have hfz70 := blk_frozen BKgq.out 1
      have hcz71 : v7.cell? ⟨gq, 2, none⟩ = some (.string c0) := (blk_cell BKgq.out 2).trans rfl
      have hfz71 := blk_frozen BKgq.out 2
      go_wp2_with ((with_reducible refine gate_dst (N := 11) rfl ?_); (try (refine gate_guard (by rfl) ?_; dsimp only)); refine box_event ?hg (N := 11) ?hd (cs := #[.int .i64 0, .int .i64 0, .string (⟨#[]⟩ : ByteArray)]) (t := 23) ?hr ?_; (case hd => rfl); (case hg => rfl); (case hr => first | (go_simp; done) | (go_simp; rfl)); intro gr hg v8 hbox hb; have n0_ := Aside0.mk (by rw [hg]; exact Nat.ne_of_lt (blk_lt (g := gp) (o := .cells #[.int .i64 a0, .int .i64 b0, .string c0] 23 (0, 0)) (by (with_reducible repeat (first | refine blk_drewN ?_ _ | refine blk_drew ?_ | refine blk_alloc ?_ _)); exact BKgp.out)) : gp ≠ gr); have n1_ := Aside0.mk (by rw [hg]; exact Nat.ne_of_gt (blk_lt (g := gp) (o := .cells #[.int .i64 a0, .int .i64 b0, .string c0] 23 (0, 0)) (by (with_reducible repeat (first | refine blk_drewN ?_ _ | refine blk_drew ?_ | refine blk_alloc ?_ _)); exact BKgp.out)) : gr ≠ gp); have n2_ := Aside0.mk (by rw [hg]; exact Nat.ne_of_lt (blk_lt (g := gn) (o := .cells #[.int .i64 n0, .int .i64 n1, .int .i64 n2] 36 (0, 0)) (by (with_reducible repeat (first | refine blk_drewN ?_ _ | refine blk_drew ?_ | refine blk_alloc ?_ _)); exact BKgn.out)) : gn ≠ gr); have n3_ := Aside0.mk (by rw [hg]; exact Nat.ne_of_gt (blk_lt (g := gn) (o := .cells #[.int .i64 n0, .int .i64 n1, .int .i64 n2] 36 (0, 0)) (by (with_reducible repeat (first | refine blk_drewN ?_ _ | refine blk_drew ?_ | refine blk_alloc ?_ _)); exact BKgn.out)) : gr ≠ gn); have n4_ := Aside0.mk (by rw [hg]; exact Nat.ne_of_lt (blk_lt (g := gy) (o := .cells #[.int .u8 (y0.toNat : Int), .int .u8 (y1.toNat : Int), .int .u8 (y2.toNat : Int), .int .u8 (y3.toNat : Int)] 37 (0, 0)) (by (with_reducible repeat (first | refine blk_drewN ?_ _ | refine blk_drew ?_ | refine blk_alloc ?_ _)); exact BKgy.out)) : gy ≠ gr); have n5_ := Aside0.mk (by rw [hg]; exact Nat.ne_of_gt (blk_lt (g := gy) (o := .cells #[.int .u8 (y0.toNat : Int), .int .u8 (y1.toNat : Int), .int .u8 (y2.toNat : Int), .int .u8 (y3.toNat : Int)] 37 (0, 0)) (by (with_reducible repeat (first | refine blk_drewN ?_ _ | refine blk_drew ?_ | refine blk_alloc ?_ _)); exact BKgy.out)) : gr ≠ gy); have n6_ := Aside0.mk (by rw [hg]; exact Nat.ne_of_lt (blk_lt (g := gq) (o := .cells #[.int .i64 a0, .int .i64 b0, .string c0] 23 (0, 0)) (by (with_reducible repeat (first | refine blk_drewN ?_ _ | refine blk_drew ?_ | refine blk_alloc ?_ _)); exact BKgq.out)) : gq ≠ gr); have n7_ := Aside0.mk (by rw [hg]; exact Nat.ne_of_gt (blk_lt (g := gq) (o := .cells #[.int .i64 a0, .int .i64 b0, .string c0] 23 (0, 0)) (by (with_reducible repeat (first | refine blk_drewN ?_ _ | refine blk_drew ?_ | refine blk_alloc ?_ _)); exact BKgq.out)) : gr ≠ gq); have n8_ := Aside0.mk (by rw [hg]; exact below_size (by repeat (first | (with_reducible first | exact HB.out | apply below_alloc | apply pw_below_drewN | apply below_drew1 | refine below_set ?_ GEgp.out | refine below_set ?_ GEgn.out | refine below_set ?_ GEgy.out | refine below_set ?_ GEgq.out) | exact HB.out)) : w.heap.size ≤ gr); have n9_ := Aside0.mk (blk_below (g := gp) (o := .cells #[.int .i64 a0, .int .i64 b0, .string c0] 23 (0, 0)) (by (with_reducible repeat (first | refine blk_drewN ?_ _ | refine blk_drew ?_ | refine blk_alloc ?_ _)); exact BKgp.out) hb); have n10_ := Aside0.mk (blk_below (g := gn) (o := .cells #[.int .i64 n0, .int .i64 n1, .int .i64 n2] 36 (0, 0)) (by (with_reducible repeat (first | refine blk_drewN ?_ _ | refine blk_drew ?_ | refine blk_alloc ?_ _)); exact BKgn.out) hb); have n11_ := Aside0.mk (blk_below (g := gy) (o := .cells #[.int .u8 (y0.toNat : Int), .int .u8 (y1.toNat : Int), .int .u8 (y2.toNat : Int), .int .u8 (y3.toNat : Int)] 37 (0, 0)) (by (with_reducible repeat (first | refine blk_drewN ?_ _ | refine blk_drew ?_ | refine blk_alloc ?_ _)); exact BKgy.out) hb); have n12_ := Aside0.mk (blk_below (g := gq) (o := .cells #[.int .i64 a0, .int .i64 b0, .string c0] 23 (0, 0)) (by (with_reducible repeat (first | refine blk_drewN ?_ _ | refine blk_drew ?_ | refine blk_alloc ?_ _)); exact BKgq.out) hb); have n13_ := Aside0.mk (below_step (by repeat (first | (with_reducible first | exact HB.out | apply below_alloc | apply pw_below_drewN | apply below_drew1 | refine below_set ?_ GEgp.out | refine below_set ?_ GEgn.out | refine below_set ?_ GEgy.out | refine below_set ?_ GEgq.out) | exact HB.out)) hb); have n14_ := Aside0.mk hbox; clear BKgp; clear BKgn; clear BKgy; clear BKgq; clear HB; have NBgp_gr := n0_; clear n0_; have NBgr_gp := n1_; clear n1_; have NBgn_gr := n2_; clear n2_; have NBgr_gn := n3_; clear n3_; have NBgy_gr := n4_; clear n4_; have NBgr_gy := n5_; clear n5_; have NBgq_gr := n6_; clear n6_; have NBgr_gq := n7_; clear n7_; have GEgr := n8_; clear n8_; have BKgp := n9_; clear n9_; have BKgn := n10_; clear n10_; have BKgy := n11_; clear n11_; have BKgq := n12_; clear n12_; have HB := n13_; clear n13_; have BKgr := n14_; clear n14_; clear hb hbox hg; have hnb72 := NBgp_gr.out; have hnc72 := NBgr_gp.out; have hnb73 := NBgn_gr.out; have hnc73 := NBgr_gn.out; have hnb74 := NBgy_gr.out; have hnc74 := NBgr_gy.out; have hnb75 := NBgq_gr.out; have hnc75 := NBgr_gq.out; have hcz76 : v8.cell? ⟨gp, 0, none⟩ = some (.int .i64 a0) := (blk_cell BKgp.out 0).trans rfl; have hfz76 := blk_frozen BKgp.out 0; have hcz77 : v8.cell? ⟨gp, 1, none⟩ = some (.int .i64 b0) := (blk_cell BKgp.out 1).trans rfl; have hfz77 := blk_frozen BKgp.out 1; have hcz78 : v8.cell? ⟨gp, 2, none⟩ = some (.string c0) := (blk_cell BKgp.out 2).trans rfl; have hfz78 := blk_frozen BKgp.out 2; have hcz79 : v8.cell? ⟨gn, 0, none⟩ = some (.int .i64 n0) := (blk_cell BKgn.out 0).trans rfl; have hfz79 := blk_frozen BKgn.out 0; have hcz80 : v8.cell? ⟨gn, 1, none⟩ = some (.int .i64 n1) := (blk_cell BKgn.out 1).trans rfl; have hfz80 := blk_frozen BKgn.out 1; have hcz81 : v8.cell? ⟨gn, 2, none⟩ = some (.int .i64 n2) := (blk_cell BKgn.out 2).trans rfl; have hfz81 := blk_frozen BKgn.out 2; have hcz82 : v8.cell? ⟨gy, 0, none⟩ = some (.int .u8 (y0.toNat : Int)) := (blk_cell BKgy.out 0).trans rfl; have hfz82 := blk_frozen BKgy.out 0; have hcz83 : v8.cell? ⟨gy, 1, none⟩ = some (.int .u8 (y1.toNat : Int)) := (blk_cell BKgy.out 1).trans rfl; have hfz83 := blk_frozen BKgy.out 1; have hcz84 : v8.cell? ⟨gy, 2, none⟩ = some (.int .u8 (y2.toNat : Int)) := (blk_cell BKgy.out 2).trans rfl; have hfz84 := blk_frozen BKgy.out 2; have hcz85 : v8.cell? ⟨gy, 3, none⟩ = some (.int .u8 (y3.toNat : Int)) := (blk_cell BKgy.out 3).trans rfl; have hfz85 := blk_frozen BKgy.out 3; have hcz86 : v8.cell? ⟨gq, 0, none⟩ = some (.int .i64 a0) := (blk_cell BKgq.out 0).trans rfl; have hfz86 := blk_frozen BKgq.out 0; have hcz87 : v8.cell? ⟨gq, 1, none⟩ = some (.int .i64 b0) := (blk_cell BKgq.out 1).trans rfl; have hfz87 := blk_frozen BKgq.out 1; have hcz88 : v8.cell? ⟨gq, 2, none⟩ = some (.string c0) := (blk_cell BKgq.out 2).trans rfl; have hfz88 := blk_frozen BKgq.out 2; have hcz89 : v8.cell? ⟨gr, 0, none⟩ = some (.int .i64 0) := (blk_cell BKgr.out 0).trans rfl; have hfz89 := blk_frozen BKgr.out 0; have hcz90 : v8.cell? ⟨gr, 1, none⟩ = some (.int .i64 0) := (blk_cell BKgr.out 1).trans rfl; have hfz90 := blk_frozen BKgr.out 1; have hcz91 : v8.cell? ⟨gr, 2, none⟩ = some (.string (⟨#[]⟩ : ByteArray)) := (blk_cell BKgr.out 2).trans rfl; have hfz91 := blk_frozen BKgr.out 2)
      with_reducible refine (CR.out _ (Glob.below HG.out (by repeat (first | (with_reducible first | exact HB.out | apply below_alloc | apply pw_below_drewN | apply below_drew1 | refine below_set ?_ GEgp.out | refine below_set ?_ GEgn.out | refine below_set ?_ GEgy.out | refine below_set ?_ GEgq.out | refine below_set ?_ GEgr.out) | exact HB.out)))).mono ?_
      rintro e v9 ⟨rfl, hb⟩
      have n0_ := Aside0.mk (blk_below (g := gp) (o := .cells #[.int .i64 a0, .int .i64 b0, .string c0] 23 (0, 0)) (by (with_reducible repeat (first | refine blk_drewN ?_ _ | refine blk_drew ?_ | refine blk_alloc ?_ _)); refine blk_far ?_ NBgp_gr.out _; (with_reducible repeat (first | refine blk_drewN ?_ _ | refine blk_drew ?_ | refine blk_alloc ?_ _)); refine blk_far ?_ NBgp_gr.out _; (with_reducible repeat (first | refine blk_drewN ?_ _ | refine blk_drew ?_ | refine blk_alloc ?_ _)); refine blk_far ?_ NBgp_gr.out _; (with_reducible repeat (first | refine blk_drewN ?_ _ | refine blk_drew ?_ | refine blk_alloc ?_ _)); exact BKgp.out) hb)
      have n1_ := Aside0.mk (blk_below (g := gn) (o := .cells #[.int .i64 n0, .int .i64 n1, .int .i64 n2] 36 (0, 0)) (by (with_reducible repeat (first | refine blk_drewN ?_ _ | refine blk_drew ?_ | refine blk_alloc ?_ _)); refine blk_far ?_ NBgn_gr.out _; (with_reducible repeat (first | refine blk_drewN ?_ _ | refine blk_drew ?_ | refine blk_alloc ?_ _)); refine blk_far ?_ NBgn_gr.out _; (with_reducible repeat (first | refine blk_drewN ?_ _ | refine blk_drew ?_ | refine blk_alloc ?_ _)); refine blk_far ?_ NBgn_gr.out _; (with_reducible repeat (first | refine blk_drewN ?_ _ | refine blk_drew ?_ | refine blk_alloc ?_ _)); exact BKgn.out) hb)
      have n2_ := Aside0.mk (blk_below (g := gy) (o := .cells #[.int .u8 (y0.toNat : Int), .int .u8 (y1.toNat : Int), .int .u8 (y2.toNat : Int), .int .u8 (y3.toNat : Int)] 37 (0, 0)) (by (with_reducible repeat (first | refine blk_drewN ?_ _ | refine blk_drew ?_ | refine blk_alloc ?_ _)); refine blk_far ?_ NBgy_gr.out _; (with_reducible repeat (first | refine blk_drewN ?_ _ | refine blk_drew ?_ | refine blk_alloc ?_ _)); refine blk_far ?_ NBgy_gr.out _; (with_reducible repeat (first | refine blk_drewN ?_ _ | refine blk_drew ?_ | refine blk_alloc ?_ _)); refine blk_far ?_ NBgy_gr.out _; (with_reducible repeat (first | refine blk_drewN ?_ _ | refine blk_drew ?_ | refine blk_alloc ?_ _)); exact BKgy.out) hb)
      have n3_ := Aside0.mk (blk_below (g := gq) (o := .cells #[.int .i64 a0, .int .i64 b0, .string c0] 23 (0, 0)) (by (with_reducible repeat (first | refine blk_drewN ?_ _ | refine blk_drew ?_ | refine blk_alloc ?_ _)); refine blk_far ?_ NBgq_gr.out _; (with_reducible repeat (first | refine blk_drewN ?_ _ | refine blk_drew ?_ | refine blk_alloc ?_ _)); refine blk_far ?_ NBgq_gr.out _; (with_reducible repeat (first | refine blk_drewN ?_ _ | refine blk_drew ?_ | refine blk_alloc ?_ _)); refine blk_far ?_ NBgq_gr.out _; (with_reducible repeat (first | refine blk_drewN ?_ _ | refine blk_drew ?_ | refine blk_alloc ?_ _)); exact BKgq.out) hb)
      have n4_ := Aside0.mk (blk_below (g := gr) (o := .cells #[.int .i64 0, .int .i64 0, .string (⟨#[]⟩ : ByteArray)] 23 (0, 0)) (by (with_reducible repeat (first | refine blk_drewN ?_ _ | refine blk_drew ?_ | refine blk_alloc ?_ _)); refine blk_put (cs := #[.int .i64 0, .int .i64 0, .string (⟨#[]⟩ : ByteArray)]) ?_ 2 _ rfl; (with_reducible repeat (first | refine blk_drewN ?_ _ | refine blk_drew ?_ | refine blk_alloc ?_ _)); refine blk_put (cs := #[.int .i64 0, .int .i64 0, .string (⟨#[]⟩ : ByteArray)]) ?_ 1 _ rfl; (with_reducible repeat (first | refine blk_drewN ?_ _ | refine blk_drew ?_ | refine blk_alloc ?_ _)); refine blk_put (cs := #[.int .i64 0, .int .i64 0, .string (⟨#[]⟩ : ByteArray)]) ?_ 0 _ rfl; (with_reducible repeat (first | refine blk_drewN ?_ _ | refine blk_drew ?_ | refine blk_alloc ?_ _)); exact BKgr.out) hb)
      have n5_ := Aside0.mk (below_step (by repeat (first | (with_reducible first | exact HB.out | apply below_alloc | apply pw_below_drewN | apply below_drew1 | refine below_set ?_ GEgp.out | refine below_set ?_ GEgn.out | refine below_set ?_ GEgy.out | refine below_set ?_ GEgq.out | refine below_set ?_ GEgr.out) | exact HB.out)) hb)
      clear BKgp
      clear BKgn
      clear BKgy
      clear BKgq
      clear BKgr
      clear HB
      have BKgp := n0_; clear n0_
      have BKgn := n1_; clear n1_
      have BKgy := n2_; clear n2_
      have BKgq := n3_; clear n3_
      have BKgr := n4_; clear n4_
      have HB := n5_; clear n5_
      (try clear hb)
      have hcz92 : v9.cell? ⟨gp, 0, none⟩ = some (.int .i64 a0) := (blk_cell BKgp.out 0).trans rfl
      have hfz92 := blk_frozen BKgp.out 0
      have hcz93 : v9.cell? ⟨gp, 1, none⟩ = some (.int .i64 b0) := (blk_cell BKgp.out 1).trans rfl
      have hfz93 := blk_frozen BKgp.out 1
      have hcz94 : v9.cell? ⟨gp, 2, none⟩ = some (.string c0) := (blk_cell BKgp.out 2).trans rfl
      have hfz94 := blk_frozen BKgp.out 2
      have hcz95 : v9.cell? ⟨gn, 0, none⟩ = some (.int .i64 n0) := (blk_cell BKgn.out 0).trans rfl
      have hfz95 := blk_frozen BKgn.out 0
      have hcz96 : v9.cell? ⟨gn, 1, none⟩ = some (.int .i64 n1) := (blk_cell BKgn.out 1).trans rfl
      have hfz96 := blk_frozen BKgn.out 1
      have hcz97 : v9.cell? ⟨gn, 2, none⟩ = some (.int .i64 n2) := (blk_cell BKgn.out 2).trans rfl
      have hfz97 := blk_frozen BKgn.out 2
      have hcz98 : v9.cell? ⟨gy, 0, none⟩ = some (.int .u8 (y0.toNat : Int)) := (blk_cell BKgy.out 0).trans rfl
      have hfz98 := blk_frozen BKgy.out 0
      have hcz99 : v9.cell? ⟨gy, 1, none⟩ = some (.int .u8 (y1.toNat : Int)) := (blk_cell BKgy.out 1).trans rfl
      have hfz99 := blk_frozen BKgy.out 1
      have hcz100 : v9.cell? ⟨gy, 2, none⟩ = some (.int .u8 (y2.toNat : Int)) := (blk_cell BKgy.out 2).trans rfl
      have hfz100 := blk_frozen BKgy.out 2
      have hcz101 : v9.cell? ⟨gy, 3, none⟩ = some (.int .u8 (y3.toNat : Int)) := (blk_cell BKgy.out 3).trans rfl
      have hfz101 := blk_frozen BKgy.out 3
      have hcz102 : v9.cell? ⟨gq, 0, none⟩ = some (.int .i64 a0) := (blk_cell BKgq.out 0).trans rfl
      have hfz102 := blk_frozen BKgq.out 0
      have hcz103 : v9.cell? ⟨gq, 1, none⟩ = some (.int .i64 b0) := (blk_cell BKgq.out 1).trans rfl
      have hfz103 := blk_frozen BKgq.out 1
      have hcz104 : v9.cell? ⟨gq, 2, none⟩ = some (.string c0) := (blk_cell BKgq.out 2).trans rfl
      have hfz104 := blk_frozen BKgq.out 2
      have hcz105 : v9.cell? ⟨gr, 0, none⟩ = some (.int .i64 0) := (blk_cell BKgr.out 0).trans rfl
      have hfz105 := blk_frozen BKgr.out 0
      have hcz106 : v9.cell? ⟨gr, 1, none⟩ = some (.int .i64 0) := (blk_cell BKgr.out 1).trans rfl
      have hfz106 := blk_frozen BKgr.out 1
      have hcz107 : v9.cell? ⟨gr, 2, none⟩ = some (.string (⟨#[]⟩ : ByteArray)) := (blk_cell BKgr.out 2).trans rfl
      have hfz107 := blk_frozen BKgr.out 2
      go_wp2_with fail
      have Hsz := Lib.hid hsz
      clear hsz
      have hcv := fun W : World => Lib.run_convert_string_bytes (P := Tryd.prog) W 9 39 5 S Tryd.underlying9 Tryd.underlying39 Tryd.underlying5
      obtain ⟨k, hk, hk9⟩ := at_k n2
      rw [hk, hcv]
      go_wp2_with fail
      obtain ⟨L0, hL0⟩ : ∃ l, l = S.data.toList := ⟨_, rfl⟩
      have hL0n : L0.length = 256 := by rw [hL0, RowU.data_length]; exact Hsz.out
      obtain ⟨W, hW⟩ : ∃ W, W = Lib.bytesWorld v9 5 S := ⟨_, rfl⟩
      obtain ⟨B, hB⟩ : ∃ B, B = v9.heap.size := ⟨_, rfl⟩
      obtain ⟨C, hCc⟩ : ∃ C, C = grownCap v9 S.size 0 5 := ⟨_, rfl⟩
      obtain ⟨n, hn⟩ : ∃ n, n = S.size := ⟨_, rfl⟩
      have hbel : Below v9.heap.size v9 W := by
        rw [hW]; exact ⟨rfl, rfl, rfl, by rw [Lib.bytesWorld_size]; omega, fun j hj => Lib.bytesWorld_at_old v9 _ S j hj⟩
      have hrow : Row W B L0 := by rw [hW, hB]; exact Row.init v9 _ S L0 hL0
      rw [← hW, ← hCc, ← hB, ← hn]
      have gnB : gn ≠ B := by rw [hB]; exact Nat.ne_of_lt (blk_lt BKgn.out)
      have gyB : gy ≠ B := by rw [hB]; exact Nat.ne_of_lt (blk_lt BKgy.out)
      have kgn := blk_below BKgn.out hbel
      have kgy := blk_below BKgy.out hbel
      have kbel : Below w.heap.size w W := below_step HB.out hbel
      have hwB : w.heap.size ≤ B := by rw [hB]; exact below_size HB.out
      have hn6 : n = 256 := by rw [hn]; exact Hsz.out
      obtain ⟨M0, hM0⟩ : ∃ l, l = L0.take 252 := ⟨_, rfl⟩
      obtain ⟨tl, htl⟩ : ∃ l, l = L0.drop 252 := ⟨_, rfl⟩
      have hL : L0 = M0 ++ tl := by rw [hM0, htl, List.take_append_drop]
      have hM0n : M0.length = 252 := by rw [hM0, List.length_take, hL0n]; rfl
      have htn : tl.length = 4 := by rw [htl, List.length_drop, hL0n]
      rw [hL] at hrow
      have HL0 := Lib.hid (hL ▸ hL0 : M0 ++ tl = S.data.toList)
      have HM0n := Lib.hid hM0n
      have Htn := Lib.hid htn
      have Hn6 := Lib.hid hn6
      clear hL0 hL0n hW hB hCc hn hbel hn6 hM0n htn hM0 htl hL hcv hk
      skip
      have HGh := Lib.hid HG.out
      go_loopw [15] (fun v15 w' => ∃ (i : Nat) (m : List UInt8), i ≤ 4 ∧ m.length = 252 ∧ Crc.leNum m = Crc.leNum M0 ^^^ (2 ^ (8 * k) * Crc.leNum ([y0, y1, y2, y3].take i)) ∧ v15 = .int .i64 i ∧ Row w' B (m ++ tl) ∧ w'.heap[gn]? = some (.cells #[.int .i64 n0, .int .i64 n1, .int .i64 n2] 36 (0, 0)) ∧ w'.heap[gy]? = some (.cells #[.int .u8 (y0.toNat : Int), .int .u8 (y1.toNat : Int), .int .u8 (y2.toNat : Int), .int .u8 (y3.toNat : Int)] 37 (0, 0)) ∧ Below w.heap.size w w') (fun v15 _ => 4 - (intOf v15).toNat)
      case atStart => exact ⟨0, M0, by omega, HM0n.out, by rw [List.take_zero]; show _ = Crc.leNum M0 ^^^ (2 ^ (8 * k) * 0); rw [Nat.mul_zero, Nat.xor_zero], rfl, hrow, kgn, kgy, kbel⟩
      clear hrow kgn kgy kbel
      case round =>
        obtain ⟨i, m, hi, hml, hle, rfl, hR, hgn, hgy, hb⟩ := hrel
        have Hle := Lib.hid hle
        have Hml := Lib.hid hml
        clear hle hml
        by_cases hlt : i < 4
        · obtain ⟨y, hyc, hyi⟩ := y_at y0 y1 y2 y3 hgy i hlt
          have hyf := blk_frozen hgy i
          obtain ⟨j, hj⟩ : ∃ j, j = k + i := ⟨_, rfl⟩
          have hjw : IntKind.i64.wrap ((k : Int) + (i : Int)) = (j : Int) := by rw [i64_w, hj]; unfold wrap64; omega
          have hj6 : ((j : Int) < 256) = True := eq_true (by omega)
          have hj7 : j < n := by rw [Hn6.out]; omega
          have hi4 : ((i : Int) < 4) = True := eq_true (by omega)
          have hql : j < (m ++ tl).length := by rw [List.length_append, Hml.out, Htn.out]; omega
          have hcl := hR.cell _ hql
          have hfr := hR.free _ hql
          obtain ⟨x, hx⟩ : ∃ x, x = (m ++ tl)[j] := ⟨_, rfl⟩
          rw [← hx] at hcl
          have hkm : j < m.length := by rw [Hml.out]; omega
          have hxm : m[j] = x := by rw [hx, List.getElem_append_left hkm]
          have hx8 := xor_byte x y
          have hnext : Row ((wr.setCell ⟨B, j, none⟩ (.int .u8 ((x.toNat ^^^ y.toNat : Nat) : Int))).drew) B (m.set j (x ^^^ y) ++ tl) := by
            have := hR.set _ hql (x ^^^ y)
            rw [List.set_append_left _ _ hkm, UInt8.toNat_xor] at this
            exact ⟨this.cell, this.free⟩
          have hturn : Crc.leNum (m.set j (x ^^^ y)) = Crc.leNum M0 ^^^ (2 ^ (8 * k) * Crc.leNum ([y0, y1, y2, y3].take (i + 1))) := by
            have hi4 : i < [y0, y1, y2, y3].length := hlt
            subst hj
            have := Crc.turn_more M0 m [y0, y1, y2, y3] k i hi4 Hle.out hkm
            rw [hxm, show [y0, y1, y2, y3][i] = y by rw [List.getElem?_eq_getElem hi4] at hyi; exact Option.some.inj hyi] at this
            exact this
          have Hnext := Lib.hid hnext
          have Hturn := Lib.hid hturn
          have Hql := Lib.hid hql
          have Hkm := Lib.hid hkm
          have Hj := Lib.hid hj
          clear hnext hturn hx hxm hyi hql hkm hj
          go_wp2
          have hcl2 : wr.drew.cell? ⟨B, j, none⟩ = some (.int .u8 ((x.toNat : Nat) : Int)) := hcl
          have hyc2 : wr.drew.cell? ⟨gy, i, none⟩ = some (.int .u8 (y.toNat : Int)) := hyc
          have hfr2 : wr.drew.frozen? ⟨B, j, none⟩ = false := hfr
          refine start_ (n := 12) (S := (fun w' => w'.cell? ⟨B, j, none⟩ = some (.int .u8 ((x.toNat : Nat) : Int)) ∧ w'.cell? ⟨gy, i, none⟩ = some (.int .u8 (y.toNat : Int)))) (ds := [11]) #[false, false, false, false, false, false, false, false, false, false, false, false] (by kernel_rfl) rfl rfl ⟨hcl, hyc⟩ (fun hHeld => ?_)
          refine pure_ (i := 0) (N := (some 93)) (v := ?_) (a' := ?_) #[true, false, false, false, false, false, false, false, false, false, false, false] rfl rfl (by kernel_rfl) (fun _ _ _ h => h) (Or.inl ⟨by rfl, ?_⟩) ?_ ?_
          rotate_left
          · intro w'
            go_simp
            with_reducible rfl
          rotate_left
          · simp only [Act.put, List.setIfInBounds_toArray, List.set_cons_zero, List.set_cons_succ]
            rfl
          refine pure_ (i := 1) (N := (some 94)) (v := ?_) (a' := ?_) #[true, true, false, false, false, false, false, false, false, false, false, false] rfl rfl (by kernel_rfl) (fun _ _ _ h => h) (Or.inl ⟨by rfl, ?_⟩) ?_ ?_
          rotate_left
          · intro w'
            go_simp
            with_reducible rfl
          rotate_left
          · simp only [Act.put, List.setIfInBounds_toArray, List.set_cons_zero, List.set_cons_succ]
            rfl
          refine pure_ (i := 2) (N := (some 95)) (v := ?_) (a' := ?_) #[true, true, true, false, false, false, false, false, false, false, false, false] rfl rfl (by kernel_rfl) (fun _ _ _ h => h) (Or.inl ⟨by rfl, ?_⟩) ?_ ?_
          rotate_left
          · intro w'
            go_simp
            with_reducible rfl
          rotate_left
          · simp only [Act.put, List.setIfInBounds_toArray, List.set_cons_zero, List.set_cons_succ]
            rfl
          refine pure_ (i := 3) (N := (some 96)) (v := ?_) (a' := ?_) #[true, true, true, true, false, false, false, false, false, false, false, false] rfl rfl (by kernel_rfl) (fun _ _ _ h => h) (Or.inl ⟨by rfl, ?_⟩) ?_ ?_
          rotate_left
          · intro w'
            go_simp
            with_reducible rfl
          rotate_left
          · simp only [Act.put, List.setIfInBounds_toArray, List.set_cons_zero, List.set_cons_succ]
            rfl
          refine pure_ (i := 4) (N := (some 97)) (v := ?_) (a' := ?_) #[true, true, true, true, true, false, false, false, false, false, false, false] rfl rfl (by kernel_rfl) (fun _ _ _ h => h) (Or.inl ⟨by rfl, ?_⟩) ?_ ?_
          rotate_left
          · intro w'
            go_simp
            with_reducible rfl
          rotate_left
          · simp only [Act.put, List.setIfInBounds_toArray, List.set_cons_zero, List.set_cons_succ]
            rfl
          refine take_ (i := 5) (N := (some 98)) (v := ?_) (a' := ?_) #[true, true, true, true, true, true, false, false, false, false, false, false] rfl rfl (by kernel_rfl) (fun _ _ _ h => h) (Or.inl ⟨by rfl, ?_⟩) hHeld ?_ ?_
          rotate_left
          · rintro w' ⟨hs1_, hs2_⟩
            go_simp
            with_reducible rfl
          rotate_left
          · simp only [Act.put, List.setIfInBounds_toArray, List.set_cons_zero, List.set_cons_succ]
            rfl
          refine pure_ (i := 6) (N := (some 99)) (v := ?_) (a' := ?_) #[true, true, true, true, true, true, true, false, false, false, false, false] rfl rfl (by kernel_rfl) (fun _ _ _ h => h) (Or.inl ⟨by rfl, ?_⟩) ?_ ?_
          rotate_left
          · intro w'
            go_simp
            with_reducible rfl
          rotate_left
          · simp only [Act.put, List.setIfInBounds_toArray, List.set_cons_zero, List.set_cons_succ]
            rfl
          refine pure_ (i := 7) (N := (some 100)) (v := ?_) (a' := ?_) #[true, true, true, true, true, true, true, true, false, false, false, false] rfl rfl (by kernel_rfl) (fun _ _ _ h => h) (Or.inl ⟨by rfl, ?_⟩) ?_ ?_
          rotate_left
          · intro w'
            go_simp
            with_reducible rfl
          rotate_left
          · simp only [Act.put, List.setIfInBounds_toArray, List.set_cons_zero, List.set_cons_succ]
            rfl
          refine take_ (i := 8) (N := (some 101)) (v := ?_) (a' := ?_) #[true, true, true, true, true, true, true, true, true, false, false, false] rfl rfl (by kernel_rfl) (fun _ _ _ h => h) (Or.inl ⟨by rfl, ?_⟩) hHeld ?_ ?_
          rotate_left
          · rintro w' ⟨hs1_, hs2_⟩
            go_simp
            with_reducible rfl
          rotate_left
          · simp only [Act.put, List.setIfInBounds_toArray, List.set_cons_zero, List.set_cons_succ]
            rfl
          refine pure_ (i := 9) (N := (some 102)) (v := ?_) (a' := ?_) #[true, true, true, true, true, true, true, true, true, true, false, false] rfl rfl (by kernel_rfl) (fun _ _ _ h => h) (Or.inl ⟨by rfl, ?_⟩) ?_ ?_
          rotate_left
          · intro w'
            go_simp
            with_reducible rfl
          rotate_left
          · simp only [Act.put, List.setIfInBounds_toArray, List.set_cons_zero, List.set_cons_succ]
            rfl
          refine pure_ (i := 10) (N := (some 103)) (v := ?_) (a' := ?_) #[true, true, true, true, true, true, true, true, true, true, true, false] rfl rfl (by kernel_rfl) (fun _ _ _ h => h) (Or.inl ⟨by rfl, ?_⟩) ?_ ?_
          rotate_left
          · intro w'
            go_simp
            with_reducible rfl
          rotate_left
          · simp only [Act.put, List.setIfInBounds_toArray, List.set_cons_zero, List.set_cons_succ]
            rfl
          refine last_ (i := 11) (N := none) #[true, true, true, true, true, true, true, true, true, true, true, true] rfl rfl (by kernel_rfl) (by decide) (fun K hK => ?_)
          refine skip_ (w1 := ?_) (by rfl) rfl ?_ ?_
          rotate_left
          · go_simp
            rfl
          refine hK.out _ _ ?_
          clear hK K
          refine done_ (by kernel_rfl) ?_
          go_wp2
          refine ⟨⟨i + 1, m.set j (x ^^^ y), by omega, by rw [List.length_set]; exact Hml.out, Hturn.out, by go_num, Hnext.out, blk_drew (blk_far hgn gnB _), blk_drew (blk_far hgy gyB _), below_drew1 (below_set hb hwB)⟩, ?_⟩
          simp [intOf]; omega
        · have hltf : decide ((i : Int) < 4) = false := decide_eq_false (by omega)
          have hi4 : i = 4 := by omega
          have hle4 := Hle.out
          rw [hi4] at hle4
          obtain ⟨T, hT⟩ : ∃ T, T = txt (m ++ tl) := ⟨_, rfl⟩
          have hln : (m ++ tl).length = 256 := by rw [List.length_append, Hml.out, Htn.out]
          have hcv : ∀ w1, Row w1 B (m ++ tl) → (convert 39 9 (.slice (some ⟨B, 0, none⟩) n C)).run Tryd.prog w1 = .ok (.string T) w1 := by
            intro w1 h1
            rw [hT, txt_eq]
            refine run_convert_bytes_arg w1 _ 5 Tryd.underlying39 Tryd.underlying5 B 0 n C _ (by rw [List.length_map, hln, Hn6.out]) (fun j hj => ?_) _ Tryd.underlying9
            have hjl : j < (m ++ tl).length := by rw [hln, ← Hn6.out]; exact hj
            rw [Nat.zero_add, h1.cell j hjl]
            simp only [List.getD_eq_getElem?_getD, List.getElem?_map, List.getElem?_eq_getElem hjl, Option.map_some, Option.getD_some]
          have hpos : 0 < (m ++ tl).length := by rw [hln]; decide
          have HB := Aside0.mk hb; clear hb
          have BKgn := Aside0.mk hgn; clear hgn
          have BKgy := Aside0.mk hgy; clear hgy
          have Hpos := Lib.hid hpos; have Hcv := Lib.hid hcv; clear hpos hcv hln
          have hcz501 : wr.cell? ⟨gn, 0, none⟩ = some (.int .i64 n0) := (blk_cell BKgn.out 0).trans rfl
          have hfz501 := blk_frozen BKgn.out 0
          have hcz502 : wr.cell? ⟨gn, 1, none⟩ = some (.int .i64 n1) := (blk_cell BKgn.out 1).trans rfl
          have hfz502 := blk_frozen BKgn.out 1
          have hcz503 : wr.cell? ⟨gn, 2, none⟩ = some (.int .i64 n2) := (blk_cell BKgn.out 2).trans rfl
          have hfz503 := blk_frozen BKgn.out 2
          have hcz504 : wr.cell? ⟨gy, 0, none⟩ = some (.int .u8 (y0.toNat : Int)) := (blk_cell BKgy.out 0).trans rfl
          have hfz504 := blk_frozen BKgy.out 0
          have hcz505 : wr.cell? ⟨gy, 1, none⟩ = some (.int .u8 (y1.toNat : Int)) := (blk_cell BKgy.out 1).trans rfl
          have hfz505 := blk_frozen BKgy.out 1
          have hcz506 : wr.cell? ⟨gy, 2, none⟩ = some (.int .u8 (y2.toNat : Int)) := (blk_cell BKgy.out 2).trans rfl
          have hfz506 := blk_frozen BKgy.out 2
          have hcz507 : wr.cell? ⟨gy, 3, none⟩ = some (.int .u8 (y3.toNat : Int)) := (blk_cell BKgy.out 3).trans rfl
          have hfz507 := blk_frozen BKgy.out 3
          by_cases hd : Crc.leNum [y0, y1, y2, y3] = 0
          · have hm0 := Crc.burst4_same M0 m [y0, y1, y2, y3] k (by rw [Hml.out, HM0n.out]) hle4 hd
            have hTS : T = S := by rw [hT, hm0]; apply str_ext; rw [txt_data]; exact HL0.out
            obtain ⟨q0, q1, q2, q3⟩ := (Crc.four_zero y0 y1 y2 y3).1 hd
            have q0 := eq_true (show (y0.toNat : Int) = 0 by rw [q0]; rfl)
            have q1 := eq_true (show (y1.toNat : Int) = 0 by rw [q1]; rfl)
            have q2 := eq_true (show (y2.toNat : Int) = 0 by rw [q2]; rfl)
            have q3 := eq_true (show (y3.toNat : Int) = 0 by rw [q3]; rfl)
            rw [hTS] at Hcv
            clear hd hm0 hTS hT hle4 hi4
            go_wp2_with fail
            rw [Hcv.out _ hR]
            go_wp2_with fail
            with_reducible refine (CG0.out _ (Glob.below HG.out (by repeat (first | (with_reducible first | exact HB.out | apply below_alloc | apply pw_below_drewN | apply below_drew1 | refine below_set ?_ GEgn.out | refine below_set ?_ GEgy.out) | exact HB.out)))).mono ?_
            rintro e v10 ⟨rfl, hb⟩
            have n0_ := Aside0.mk (blk_below (g := gn) (o := .cells #[.int .i64 n0, .int .i64 n1, .int .i64 n2] 36 (0, 0)) (by (with_reducible repeat (first | refine blk_drewN ?_ _ | refine blk_drew ?_ | refine blk_alloc ?_ _)); exact BKgn.out) hb)
            have n1_ := Aside0.mk (blk_below (g := gy) (o := .cells #[.int .u8 (y0.toNat : Int), .int .u8 (y1.toNat : Int), .int .u8 (y2.toNat : Int), .int .u8 (y3.toNat : Int)] 37 (0, 0)) (by (with_reducible repeat (first | refine blk_drewN ?_ _ | refine blk_drew ?_ | refine blk_alloc ?_ _)); exact BKgy.out) hb)
            have n2_ := Aside0.mk (below_step (by repeat (first | (with_reducible first | exact HB.out | apply below_alloc | apply pw_below_drewN | apply below_drew1 | refine below_set ?_ GEgn.out | refine below_set ?_ GEgy.out) | exact HB.out)) hb)
            clear BKgn
            clear BKgy
            clear HB
            have BKgn := n0_; clear n0_
            have BKgy := n1_; clear n1_
            have HB := n2_; clear n2_
            (try clear hb)
            have hcz508 : v10.cell? ⟨gn, 0, none⟩ = some (.int .i64 n0) := (blk_cell BKgn.out 0).trans rfl
            have hfz508 := blk_frozen BKgn.out 0
            have hcz509 : v10.cell? ⟨gn, 1, none⟩ = some (.int .i64 n1) := (blk_cell BKgn.out 1).trans rfl
            have hfz509 := blk_frozen BKgn.out 1
            have hcz510 : v10.cell? ⟨gn, 2, none⟩ = some (.int .i64 n2) := (blk_cell BKgn.out 2).trans rfl
            have hfz510 := blk_frozen BKgn.out 2
            have hcz511 : v10.cell? ⟨gy, 0, none⟩ = some (.int .u8 (y0.toNat : Int)) := (blk_cell BKgy.out 0).trans rfl
            have hfz511 := blk_frozen BKgy.out 0
            have hcz512 : v10.cell? ⟨gy, 1, none⟩ = some (.int .u8 (y1.toNat : Int)) := (blk_cell BKgy.out 1).trans rfl
            have hfz512 := blk_frozen BKgy.out 1
            have hcz513 : v10.cell? ⟨gy, 2, none⟩ = some (.int .u8 (y2.toNat : Int)) := (blk_cell BKgy.out 2).trans rfl
            have hfz513 := blk_frozen BKgy.out 2
            have hcz514 : v10.cell? ⟨gy, 3, none⟩ = some (.int .u8 (y3.toNat : Int)) := (blk_cell BKgy.out 3).trans rfl
            have hfz514 := blk_frozen BKgy.out 3
            go_wp2_with ((with_reducible refine gate_dst (N := 16) rfl ?_); (try (refine gate_guard (by rfl) ?_; dsimp only)); refine box_event ?hg (N := 16) ?hd (cs := #[.int .i64 0, .int .i64 0, .string (⟨#[]⟩ : ByteArray)]) (t := 23) ?hr ?_; (case hd => rfl); (case hg => rfl); (case hr => first | (go_simp; done) | (go_simp; rfl)); intro gu hg v11 hbox hb; have n0_ := Aside0.mk (by rw [hg]; exact Nat.ne_of_lt (blk_lt (g := gn) (o := .cells #[.int .i64 n0, .int .i64 n1, .int .i64 n2] 36 (0, 0)) (by (with_reducible repeat (first | refine blk_drewN ?_ _ | refine blk_drew ?_ | refine blk_alloc ?_ _)); exact BKgn.out)) : gn ≠ gu); have n1_ := Aside0.mk (by rw [hg]; exact Nat.ne_of_gt (blk_lt (g := gn) (o := .cells #[.int .i64 n0, .int .i64 n1, .int .i64 n2] 36 (0, 0)) (by (with_reducible repeat (first | refine blk_drewN ?_ _ | refine blk_drew ?_ | refine blk_alloc ?_ _)); exact BKgn.out)) : gu ≠ gn); have n2_ := Aside0.mk (by rw [hg]; exact Nat.ne_of_lt (blk_lt (g := gy) (o := .cells #[.int .u8 (y0.toNat : Int), .int .u8 (y1.toNat : Int), .int .u8 (y2.toNat : Int), .int .u8 (y3.toNat : Int)] 37 (0, 0)) (by (with_reducible repeat (first | refine blk_drewN ?_ _ | refine blk_drew ?_ | refine blk_alloc ?_ _)); exact BKgy.out)) : gy ≠ gu); have n3_ := Aside0.mk (by rw [hg]; exact Nat.ne_of_gt (blk_lt (g := gy) (o := .cells #[.int .u8 (y0.toNat : Int), .int .u8 (y1.toNat : Int), .int .u8 (y2.toNat : Int), .int .u8 (y3.toNat : Int)] 37 (0, 0)) (by (with_reducible repeat (first | refine blk_drewN ?_ _ | refine blk_drew ?_ | refine blk_alloc ?_ _)); exact BKgy.out)) : gu ≠ gy); have n4_ := Aside0.mk (by rw [hg]; exact below_size (by repeat (first | (with_reducible first | exact HB.out | apply below_alloc | apply pw_below_drewN | apply below_drew1 | refine below_set ?_ GEgn.out | refine below_set ?_ GEgy.out) | exact HB.out)) : w.heap.size ≤ gu); have n5_ := Aside0.mk (blk_below (g := gn) (o := .cells #[.int .i64 n0, .int .i64 n1, .int .i64 n2] 36 (0, 0)) (by (with_reducible repeat (first | refine blk_drewN ?_ _ | refine blk_drew ?_ | refine blk_alloc ?_ _)); exact BKgn.out) hb); have n6_ := Aside0.mk (blk_below (g := gy) (o := .cells #[.int .u8 (y0.toNat : Int), .int .u8 (y1.toNat : Int), .int .u8 (y2.toNat : Int), .int .u8 (y3.toNat : Int)] 37 (0, 0)) (by (with_reducible repeat (first | refine blk_drewN ?_ _ | refine blk_drew ?_ | refine blk_alloc ?_ _)); exact BKgy.out) hb); have n7_ := Aside0.mk (below_step (by repeat (first | (with_reducible first | exact HB.out | apply below_alloc | apply pw_below_drewN | apply below_drew1 | refine below_set ?_ GEgn.out | refine below_set ?_ GEgy.out) | exact HB.out)) hb); have n8_ := Aside0.mk hbox; clear BKgn; clear BKgy; clear HB; have NBgn_gu := n0_; clear n0_; have NBgu_gn := n1_; clear n1_; have NBgy_gu := n2_; clear n2_; have NBgu_gy := n3_; clear n3_; have GEgu := n4_; clear n4_; have BKgn := n5_; clear n5_; have BKgy := n6_; clear n6_; have HB := n7_; clear n7_; have BKgu := n8_; clear n8_; clear hb hbox hg; have hnb515 := NBgn_gu.out; have hnc515 := NBgu_gn.out; have hnb516 := NBgy_gu.out; have hnc516 := NBgu_gy.out; have hcz517 : v11.cell? ⟨gn, 0, none⟩ = some (.int .i64 n0) := (blk_cell BKgn.out 0).trans rfl; have hfz517 := blk_frozen BKgn.out 0; have hcz518 : v11.cell? ⟨gn, 1, none⟩ = some (.int .i64 n1) := (blk_cell BKgn.out 1).trans rfl; have hfz518 := blk_frozen BKgn.out 1; have hcz519 : v11.cell? ⟨gn, 2, none⟩ = some (.int .i64 n2) := (blk_cell BKgn.out 2).trans rfl; have hfz519 := blk_frozen BKgn.out 2; have hcz520 : v11.cell? ⟨gy, 0, none⟩ = some (.int .u8 (y0.toNat : Int)) := (blk_cell BKgy.out 0).trans rfl; have hfz520 := blk_frozen BKgy.out 0; have hcz521 : v11.cell? ⟨gy, 1, none⟩ = some (.int .u8 (y1.toNat : Int)) := (blk_cell BKgy.out 1).trans rfl; have hfz521 := blk_frozen BKgy.out 1; have hcz522 : v11.cell? ⟨gy, 2, none⟩ = some (.int .u8 (y2.toNat : Int)) := (blk_cell BKgy.out 2).trans rfl; have hfz522 := blk_frozen BKgy.out 2; have hcz523 : v11.cell? ⟨gy, 3, none⟩ = some (.int .u8 (y3.toNat : Int)) := (blk_cell BKgy.out 3).trans rfl; have hfz523 := blk_frozen BKgy.out 3; have hcz524 : v11.cell? ⟨gu, 0, none⟩ = some (.int .i64 0) := (blk_cell BKgu.out 0).trans rfl; have hfz524 := blk_frozen BKgu.out 0; have hcz525 : v11.cell? ⟨gu, 1, none⟩ = some (.int .i64 0) := (blk_cell BKgu.out 1).trans rfl; have hfz525 := blk_frozen BKgu.out 1; have hcz526 : v11.cell? ⟨gu, 2, none⟩ = some (.string (⟨#[]⟩ : ByteArray)) := (blk_cell BKgu.out 2).trans rfl; have hfz526 := blk_frozen BKgu.out 2)
            rw [PagE.eq4, show ((0 : Int) == 0 && ((0 : Int) == 0 && ((0 : Int) == 0 && ((0 : Int) == 0 && true)))) = true from rfl]; simp only [Result.andThen_ok]
            go_wp2_with fail
            with_reducible refine (CW.out _ (Glob.below HG.out (by repeat (first | (with_reducible first | exact HB.out | apply below_alloc | apply pw_below_drewN | apply below_drew1 | refine below_set ?_ GEgn.out | refine below_set ?_ GEgy.out | refine below_set ?_ GEgu.out) | exact HB.out)))).mono ?_
            rintro e v12 ⟨rfl, hb⟩
            have n0_ := Aside0.mk (blk_below (g := gn) (o := .cells #[.int .i64 n0, .int .i64 n1, .int .i64 n2] 36 (0, 0)) (by (with_reducible repeat (first | refine blk_drewN ?_ _ | refine blk_drew ?_ | refine blk_alloc ?_ _)); refine blk_far ?_ NBgn_gu.out _; (with_reducible repeat (first | refine blk_drewN ?_ _ | refine blk_drew ?_ | refine blk_alloc ?_ _)); refine blk_far ?_ NBgn_gu.out _; (with_reducible repeat (first | refine blk_drewN ?_ _ | refine blk_drew ?_ | refine blk_alloc ?_ _)); refine blk_far ?_ NBgn_gu.out _; (with_reducible repeat (first | refine blk_drewN ?_ _ | refine blk_drew ?_ | refine blk_alloc ?_ _)); exact BKgn.out) hb)
            have n1_ := Aside0.mk (blk_below (g := gy) (o := .cells #[.int .u8 (y0.toNat : Int), .int .u8 (y1.toNat : Int), .int .u8 (y2.toNat : Int), .int .u8 (y3.toNat : Int)] 37 (0, 0)) (by (with_reducible repeat (first | refine blk_drewN ?_ _ | refine blk_drew ?_ | refine blk_alloc ?_ _)); refine blk_far ?_ NBgy_gu.out _; (with_reducible repeat (first | refine blk_drewN ?_ _ | refine blk_drew ?_ | refine blk_alloc ?_ _)); refine blk_far ?_ NBgy_gu.out _; (with_reducible repeat (first | refine blk_drewN ?_ _ | refine blk_drew ?_ | refine blk_alloc ?_ _)); refine blk_far ?_ NBgy_gu.out _; (with_reducible repeat (first | refine blk_drewN ?_ _ | refine blk_drew ?_ | refine blk_alloc ?_ _)); exact BKgy.out) hb)
            have n2_ := Aside0.mk (blk_below (g := gu) (o := .cells #[.int .i64 a0, .int .i64 b0, .string c0] 23 (0, 0)) (by (with_reducible repeat (first | refine blk_drewN ?_ _ | refine blk_drew ?_ | refine blk_alloc ?_ _)); refine blk_put (cs := #[.int .i64 a0, .int .i64 b0, .string (⟨#[]⟩ : ByteArray)]) ?_ 2 _ rfl; (with_reducible repeat (first | refine blk_drewN ?_ _ | refine blk_drew ?_ | refine blk_alloc ?_ _)); refine blk_put (cs := #[.int .i64 a0, .int .i64 0, .string (⟨#[]⟩ : ByteArray)]) ?_ 1 _ rfl; (with_reducible repeat (first | refine blk_drewN ?_ _ | refine blk_drew ?_ | refine blk_alloc ?_ _)); refine blk_put (cs := #[.int .i64 0, .int .i64 0, .string (⟨#[]⟩ : ByteArray)]) ?_ 0 _ rfl; (with_reducible repeat (first | refine blk_drewN ?_ _ | refine blk_drew ?_ | refine blk_alloc ?_ _)); exact BKgu.out) hb)
            have n3_ := Aside0.mk (below_step (by repeat (first | (with_reducible first | exact HB.out | apply below_alloc | apply pw_below_drewN | apply below_drew1 | refine below_set ?_ GEgn.out | refine below_set ?_ GEgy.out | refine below_set ?_ GEgu.out) | exact HB.out)) hb)
            clear BKgn
            clear BKgy
            clear BKgu
            clear HB
            have BKgn := n0_; clear n0_
            have BKgy := n1_; clear n1_
            have BKgu := n2_; clear n2_
            have HB := n3_; clear n3_
            (try clear hb)
            have hcz527 : v12.cell? ⟨gn, 0, none⟩ = some (.int .i64 n0) := (blk_cell BKgn.out 0).trans rfl
            have hfz527 := blk_frozen BKgn.out 0
            have hcz528 : v12.cell? ⟨gn, 1, none⟩ = some (.int .i64 n1) := (blk_cell BKgn.out 1).trans rfl
            have hfz528 := blk_frozen BKgn.out 1
            have hcz529 : v12.cell? ⟨gn, 2, none⟩ = some (.int .i64 n2) := (blk_cell BKgn.out 2).trans rfl
            have hfz529 := blk_frozen BKgn.out 2
            have hcz530 : v12.cell? ⟨gy, 0, none⟩ = some (.int .u8 (y0.toNat : Int)) := (blk_cell BKgy.out 0).trans rfl
            have hfz530 := blk_frozen BKgy.out 0
            have hcz531 : v12.cell? ⟨gy, 1, none⟩ = some (.int .u8 (y1.toNat : Int)) := (blk_cell BKgy.out 1).trans rfl
            have hfz531 := blk_frozen BKgy.out 1
            have hcz532 : v12.cell? ⟨gy, 2, none⟩ = some (.int .u8 (y2.toNat : Int)) := (blk_cell BKgy.out 2).trans rfl
            have hfz532 := blk_frozen BKgy.out 2
            have hcz533 : v12.cell? ⟨gy, 3, none⟩ = some (.int .u8 (y3.toNat : Int)) := (blk_cell BKgy.out 3).trans rfl
            have hfz533 := blk_frozen BKgy.out 3
            have hcz534 : v12.cell? ⟨gu, 0, none⟩ = some (.int .i64 a0) := (blk_cell BKgu.out 0).trans rfl
            have hfz534 := blk_frozen BKgu.out 0
            have hcz535 : v12.cell? ⟨gu, 1, none⟩ = some (.int .i64 b0) := (blk_cell BKgu.out 1).trans rfl
            have hfz535 := blk_frozen BKgu.out 1
            have hcz536 : v12.cell? ⟨gu, 2, none⟩ = some (.string c0) := (blk_cell BKgu.out 2).trans rfl
            have hfz536 := blk_frozen BKgu.out 2
            go_wp2_with fail
            go_ret
            exact ⟨rfl, by repeat (first | (with_reducible first | exact HB.out | apply below_alloc | apply pw_below_drewN | apply below_drew1 | refine below_set ?_ GEgn.out | refine below_set ?_ GEgy.out | refine below_set ?_ GEgu.out) | exact HB.out)⟩
          · have hcr : ¬ rightP T := by
              intro hr
              have hp := HpS.out
              have e1 : T.extract 0 252 = txt m := by apply str_ext; rw [hT]; exact ext_left m tl Hml.out
              have e2 : S.extract 0 252 = txt M0 := by rw [show S = txt (M0 ++ tl) from str_ext (by rw [txt_data]; exact HL0.out.symm)]; apply str_ext; exact ext_left M0 tl HM0n.out
              have e3 : T.extract 252 256 = S.extract 252 256 := by rw [show S = txt (M0 ++ tl) from str_ext (by rw [txt_data]; exact HL0.out.symm), hT, ext_right m tl Hml.out Htn.out, ext_right M0 tl HM0n.out Htn.out]
              have h1 := hr.2
              have h2 := (page_right hp).2
              rw [e1, e3, h2, e2] at h1
              refine hd ((Crc.burst4 M0 m [y0, y1, y2, y3] k rfl (by rw [HM0n.out]; omega) (by rw [Hml.out, HM0n.out]) hle4).1 ?_)
              unfold crcI at h1
              rw [txt_data, txt_data] at h1
              omega
            have CGT := Lib.hid fun W hG => get_c T n0 W hG
            rw [get_neg (fun a b pl h => hcr (page_right h))] at CGT; dsimp only at CGT
            have CRT := Lib.hid fun W hG => right_c T W hG
            rw [decide_eq_false hcr] at CRT
            have hq := four_ne y0 y1 y2 y3 hd
            clear hd hcr hT hle4 hi4
            go_wp2_with fail
            rw [Hcv.out _ hR]
            go_wp2_with fail
            with_reducible refine (CGT.out _ (Glob.below HG.out (by repeat (first | (with_reducible first | exact HB.out | apply below_alloc | apply pw_below_drewN | apply below_drew1 | refine below_set ?_ GEgn.out | refine below_set ?_ GEgy.out) | exact HB.out)))).mono ?_
            rintro e v10 ⟨rfl, hb⟩
            have hR := hR.below Hpos.out hb
            have n0_ := Aside0.mk (blk_below (g := gn) (o := .cells #[.int .i64 n0, .int .i64 n1, .int .i64 n2] 36 (0, 0)) (by (with_reducible repeat (first | refine blk_drewN ?_ _ | refine blk_drew ?_ | refine blk_alloc ?_ _)); exact BKgn.out) hb)
            have n1_ := Aside0.mk (blk_below (g := gy) (o := .cells #[.int .u8 (y0.toNat : Int), .int .u8 (y1.toNat : Int), .int .u8 (y2.toNat : Int), .int .u8 (y3.toNat : Int)] 37 (0, 0)) (by (with_reducible repeat (first | refine blk_drewN ?_ _ | refine blk_drew ?_ | refine blk_alloc ?_ _)); exact BKgy.out) hb)
            have n2_ := Aside0.mk (below_step (by repeat (first | (with_reducible first | exact HB.out | apply below_alloc | apply pw_below_drewN | apply below_drew1 | refine below_set ?_ GEgn.out | refine below_set ?_ GEgy.out) | exact HB.out)) hb)
            clear BKgn
            clear BKgy
            clear HB
            have BKgn := n0_; clear n0_
            have BKgy := n1_; clear n1_
            have HB := n2_; clear n2_
            (try clear hb)
            have hcz508 : v10.cell? ⟨gn, 0, none⟩ = some (.int .i64 n0) := (blk_cell BKgn.out 0).trans rfl
            have hfz508 := blk_frozen BKgn.out 0
            have hcz509 : v10.cell? ⟨gn, 1, none⟩ = some (.int .i64 n1) := (blk_cell BKgn.out 1).trans rfl
            have hfz509 := blk_frozen BKgn.out 1
            have hcz510 : v10.cell? ⟨gn, 2, none⟩ = some (.int .i64 n2) := (blk_cell BKgn.out 2).trans rfl
            have hfz510 := blk_frozen BKgn.out 2
            have hcz511 : v10.cell? ⟨gy, 0, none⟩ = some (.int .u8 (y0.toNat : Int)) := (blk_cell BKgy.out 0).trans rfl
            have hfz511 := blk_frozen BKgy.out 0
            have hcz512 : v10.cell? ⟨gy, 1, none⟩ = some (.int .u8 (y1.toNat : Int)) := (blk_cell BKgy.out 1).trans rfl
            have hfz512 := blk_frozen BKgy.out 1
            have hcz513 : v10.cell? ⟨gy, 2, none⟩ = some (.int .u8 (y2.toNat : Int)) := (blk_cell BKgy.out 2).trans rfl
            have hfz513 := blk_frozen BKgy.out 2
            have hcz514 : v10.cell? ⟨gy, 3, none⟩ = some (.int .u8 (y3.toNat : Int)) := (blk_cell BKgy.out 3).trans rfl
            have hfz514 := blk_frozen BKgy.out 3
            go_wp2_with ((with_reducible refine gate_dst (N := 16) rfl ?_); (try (refine gate_guard (by rfl) ?_; dsimp only)); refine box_event ?hg (N := 16) ?hd (cs := #[.int .i64 0, .int .i64 0, .string (⟨#[]⟩ : ByteArray)]) (t := 23) ?hr ?_; (case hd => rfl); (case hg => rfl); (case hr => first | (go_simp; done) | (go_simp; rfl)); intro gu hg v11 hbox hb; have n0_ := Aside0.mk (by rw [hg]; exact Nat.ne_of_lt (blk_lt (g := gn) (o := .cells #[.int .i64 n0, .int .i64 n1, .int .i64 n2] 36 (0, 0)) (by (with_reducible repeat (first | refine blk_drewN ?_ _ | refine blk_drew ?_ | refine blk_alloc ?_ _)); exact BKgn.out)) : gn ≠ gu); have n1_ := Aside0.mk (by rw [hg]; exact Nat.ne_of_gt (blk_lt (g := gn) (o := .cells #[.int .i64 n0, .int .i64 n1, .int .i64 n2] 36 (0, 0)) (by (with_reducible repeat (first | refine blk_drewN ?_ _ | refine blk_drew ?_ | refine blk_alloc ?_ _)); exact BKgn.out)) : gu ≠ gn); have n2_ := Aside0.mk (by rw [hg]; exact Nat.ne_of_lt (blk_lt (g := gy) (o := .cells #[.int .u8 (y0.toNat : Int), .int .u8 (y1.toNat : Int), .int .u8 (y2.toNat : Int), .int .u8 (y3.toNat : Int)] 37 (0, 0)) (by (with_reducible repeat (first | refine blk_drewN ?_ _ | refine blk_drew ?_ | refine blk_alloc ?_ _)); exact BKgy.out)) : gy ≠ gu); have n3_ := Aside0.mk (by rw [hg]; exact Nat.ne_of_gt (blk_lt (g := gy) (o := .cells #[.int .u8 (y0.toNat : Int), .int .u8 (y1.toNat : Int), .int .u8 (y2.toNat : Int), .int .u8 (y3.toNat : Int)] 37 (0, 0)) (by (with_reducible repeat (first | refine blk_drewN ?_ _ | refine blk_drew ?_ | refine blk_alloc ?_ _)); exact BKgy.out)) : gu ≠ gy); have n4_ := Aside0.mk (by rw [hg]; exact below_size (by repeat (first | (with_reducible first | exact HB.out | apply below_alloc | apply pw_below_drewN | apply below_drew1 | refine below_set ?_ GEgn.out | refine below_set ?_ GEgy.out) | exact HB.out)) : w.heap.size ≤ gu); have n5_ := Aside0.mk (blk_below (g := gn) (o := .cells #[.int .i64 n0, .int .i64 n1, .int .i64 n2] 36 (0, 0)) (by (with_reducible repeat (first | refine blk_drewN ?_ _ | refine blk_drew ?_ | refine blk_alloc ?_ _)); exact BKgn.out) hb); have n6_ := Aside0.mk (blk_below (g := gy) (o := .cells #[.int .u8 (y0.toNat : Int), .int .u8 (y1.toNat : Int), .int .u8 (y2.toNat : Int), .int .u8 (y3.toNat : Int)] 37 (0, 0)) (by (with_reducible repeat (first | refine blk_drewN ?_ _ | refine blk_drew ?_ | refine blk_alloc ?_ _)); exact BKgy.out) hb); have n7_ := Aside0.mk (below_step (by repeat (first | (with_reducible first | exact HB.out | apply below_alloc | apply pw_below_drewN | apply below_drew1 | refine below_set ?_ GEgn.out | refine below_set ?_ GEgy.out) | exact HB.out)) hb); have n8_ := Aside0.mk hbox; clear BKgn; clear BKgy; clear HB; have NBgn_gu := n0_; clear n0_; have NBgu_gn := n1_; clear n1_; have NBgy_gu := n2_; clear n2_; have NBgu_gy := n3_; clear n3_; have GEgu := n4_; clear n4_; have BKgn := n5_; clear n5_; have BKgy := n6_; clear n6_; have HB := n7_; clear n7_; have BKgu := n8_; clear n8_; have hgB := Nat.ne_of_lt (hR.lt Hpos.out); rw [← hg] at hgB; have hR1 := hR.below Hpos.out hb; have hR2 := ((hR1.far hgB (p := ⟨gu, 0, none⟩) (.int .i64 0)).far hgB (p := ⟨gu, 1, none⟩) (.int .i64 0)).far hgB (p := ⟨gu, 2, none⟩) (.string (⟨#[]⟩ : ByteArray)); clear hb hbox hg; have hnb515 := NBgn_gu.out; have hnc515 := NBgu_gn.out; have hnb516 := NBgy_gu.out; have hnc516 := NBgu_gy.out; have hcz517 : v11.cell? ⟨gn, 0, none⟩ = some (.int .i64 n0) := (blk_cell BKgn.out 0).trans rfl; have hfz517 := blk_frozen BKgn.out 0; have hcz518 : v11.cell? ⟨gn, 1, none⟩ = some (.int .i64 n1) := (blk_cell BKgn.out 1).trans rfl; have hfz518 := blk_frozen BKgn.out 1; have hcz519 : v11.cell? ⟨gn, 2, none⟩ = some (.int .i64 n2) := (blk_cell BKgn.out 2).trans rfl; have hfz519 := blk_frozen BKgn.out 2; have hcz520 : v11.cell? ⟨gy, 0, none⟩ = some (.int .u8 (y0.toNat : Int)) := (blk_cell BKgy.out 0).trans rfl; have hfz520 := blk_frozen BKgy.out 0; have hcz521 : v11.cell? ⟨gy, 1, none⟩ = some (.int .u8 (y1.toNat : Int)) := (blk_cell BKgy.out 1).trans rfl; have hfz521 := blk_frozen BKgy.out 1; have hcz522 : v11.cell? ⟨gy, 2, none⟩ = some (.int .u8 (y2.toNat : Int)) := (blk_cell BKgy.out 2).trans rfl; have hfz522 := blk_frozen BKgy.out 2; have hcz523 : v11.cell? ⟨gy, 3, none⟩ = some (.int .u8 (y3.toNat : Int)) := (blk_cell BKgy.out 3).trans rfl; have hfz523 := blk_frozen BKgy.out 3; have hcz524 : v11.cell? ⟨gu, 0, none⟩ = some (.int .i64 0) := (blk_cell BKgu.out 0).trans rfl; have hfz524 := blk_frozen BKgu.out 0; have hcz525 : v11.cell? ⟨gu, 1, none⟩ = some (.int .i64 0) := (blk_cell BKgu.out 1).trans rfl; have hfz525 := blk_frozen BKgu.out 1; have hcz526 : v11.cell? ⟨gu, 2, none⟩ = some (.string (⟨#[]⟩ : ByteArray)) := (blk_cell BKgu.out 2).trans rfl; have hfz526 := blk_frozen BKgu.out 2)
            rw [PagE.eq4, hq]; simp only [Result.andThen_ok]
            go_wp2_with fail
            rw [Hcv.out _ hR2]
            go_wp2_with fail
            with_reducible refine (CRT.out _ (Glob.below HG.out (by repeat (first | (with_reducible first | exact HB.out | apply below_alloc | apply pw_below_drewN | apply below_drew1 | refine below_set ?_ GEgn.out | refine below_set ?_ GEgy.out | refine below_set ?_ GEgu.out) | exact HB.out)))).mono ?_
            rintro e v12 ⟨rfl, hb⟩
            have n0_ := Aside0.mk (blk_below (g := gn) (o := .cells #[.int .i64 n0, .int .i64 n1, .int .i64 n2] 36 (0, 0)) (by (with_reducible repeat (first | refine blk_drewN ?_ _ | refine blk_drew ?_ | refine blk_alloc ?_ _)); refine blk_far ?_ NBgn_gu.out _; (with_reducible repeat (first | refine blk_drewN ?_ _ | refine blk_drew ?_ | refine blk_alloc ?_ _)); refine blk_far ?_ NBgn_gu.out _; (with_reducible repeat (first | refine blk_drewN ?_ _ | refine blk_drew ?_ | refine blk_alloc ?_ _)); refine blk_far ?_ NBgn_gu.out _; (with_reducible repeat (first | refine blk_drewN ?_ _ | refine blk_drew ?_ | refine blk_alloc ?_ _)); exact BKgn.out) hb)
            have n1_ := Aside0.mk (blk_below (g := gy) (o := .cells #[.int .u8 (y0.toNat : Int), .int .u8 (y1.toNat : Int), .int .u8 (y2.toNat : Int), .int .u8 (y3.toNat : Int)] 37 (0, 0)) (by (with_reducible repeat (first | refine blk_drewN ?_ _ | refine blk_drew ?_ | refine blk_alloc ?_ _)); refine blk_far ?_ NBgy_gu.out _; (with_reducible repeat (first | refine blk_drewN ?_ _ | refine blk_drew ?_ | refine blk_alloc ?_ _)); refine blk_far ?_ NBgy_gu.out _; (with_reducible repeat (first | refine blk_drewN ?_ _ | refine blk_drew ?_ | refine blk_alloc ?_ _)); refine blk_far ?_ NBgy_gu.out _; (with_reducible repeat (first | refine blk_drewN ?_ _ | refine blk_drew ?_ | refine blk_alloc ?_ _)); exact BKgy.out) hb)
            have n2_ := Aside0.mk (blk_below (g := gu) (o := .cells #[.int .i64 0, .int .i64 0, .string (⟨#[]⟩ : ByteArray)] 23 (0, 0)) (by (with_reducible repeat (first | refine blk_drewN ?_ _ | refine blk_drew ?_ | refine blk_alloc ?_ _)); refine blk_put (cs := #[.int .i64 0, .int .i64 0, .string (⟨#[]⟩ : ByteArray)]) ?_ 2 _ rfl; (with_reducible repeat (first | refine blk_drewN ?_ _ | refine blk_drew ?_ | refine blk_alloc ?_ _)); refine blk_put (cs := #[.int .i64 0, .int .i64 0, .string (⟨#[]⟩ : ByteArray)]) ?_ 1 _ rfl; (with_reducible repeat (first | refine blk_drewN ?_ _ | refine blk_drew ?_ | refine blk_alloc ?_ _)); refine blk_put (cs := #[.int .i64 0, .int .i64 0, .string (⟨#[]⟩ : ByteArray)]) ?_ 0 _ rfl; (with_reducible repeat (first | refine blk_drewN ?_ _ | refine blk_drew ?_ | refine blk_alloc ?_ _)); exact BKgu.out) hb)
            have n3_ := Aside0.mk (below_step (by repeat (first | (with_reducible first | exact HB.out | apply below_alloc | apply pw_below_drewN | apply below_drew1 | refine below_set ?_ GEgn.out | refine below_set ?_ GEgy.out | refine below_set ?_ GEgu.out) | exact HB.out)) hb)
            clear BKgn
            clear BKgy
            clear BKgu
            clear HB
            have BKgn := n0_; clear n0_
            have BKgy := n1_; clear n1_
            have BKgu := n2_; clear n2_
            have HB := n3_; clear n3_
            (try clear hb)
            have hcz527 : v12.cell? ⟨gn, 0, none⟩ = some (.int .i64 n0) := (blk_cell BKgn.out 0).trans rfl
            have hfz527 := blk_frozen BKgn.out 0
            have hcz528 : v12.cell? ⟨gn, 1, none⟩ = some (.int .i64 n1) := (blk_cell BKgn.out 1).trans rfl
            have hfz528 := blk_frozen BKgn.out 1
            have hcz529 : v12.cell? ⟨gn, 2, none⟩ = some (.int .i64 n2) := (blk_cell BKgn.out 2).trans rfl
            have hfz529 := blk_frozen BKgn.out 2
            have hcz530 : v12.cell? ⟨gy, 0, none⟩ = some (.int .u8 (y0.toNat : Int)) := (blk_cell BKgy.out 0).trans rfl
            have hfz530 := blk_frozen BKgy.out 0
            have hcz531 : v12.cell? ⟨gy, 1, none⟩ = some (.int .u8 (y1.toNat : Int)) := (blk_cell BKgy.out 1).trans rfl
            have hfz531 := blk_frozen BKgy.out 1
            have hcz532 : v12.cell? ⟨gy, 2, none⟩ = some (.int .u8 (y2.toNat : Int)) := (blk_cell BKgy.out 2).trans rfl
            have hfz532 := blk_frozen BKgy.out 2
            have hcz533 : v12.cell? ⟨gy, 3, none⟩ = some (.int .u8 (y3.toNat : Int)) := (blk_cell BKgy.out 3).trans rfl
            have hfz533 := blk_frozen BKgy.out 3
            have hcz534 : v12.cell? ⟨gu, 0, none⟩ = some (.int .i64 0) := (blk_cell BKgu.out 0).trans rfl
            have hfz534 := blk_frozen BKgu.out 0
            have hcz535 : v12.cell? ⟨gu, 1, none⟩ = some (.int .i64 0) := (blk_cell BKgu.out 1).trans rfl
            have hfz535 := blk_frozen BKgu.out 1
            have hcz536 : v12.cell? ⟨gu, 2, none⟩ = some (.string (⟨#[]⟩ : ByteArray)) := (blk_cell BKgu.out 2).trans rfl
            have hfz536 := blk_frozen BKgu.out 2
            go_wp2_with fail
            with_reducible refine (CW.out _ (Glob.below HG.out (by repeat (first | (with_reducible first | exact HB.out | apply below_alloc | apply pw_below_drewN | apply below_drew1 | refine below_set ?_ GEgn.out | refine below_set ?_ GEgy.out | refine below_set ?_ GEgu.out) | exact HB.out)))).mono ?_
            rintro e v13 ⟨rfl, hb⟩
            have n0_ := Aside0.mk (blk_below (g := gn) (o := .cells #[.int .i64 n0, .int .i64 n1, .int .i64 n2] 36 (0, 0)) (by (with_reducible repeat (first | refine blk_drewN ?_ _ | refine blk_drew ?_ | refine blk_alloc ?_ _)); exact BKgn.out) hb)
            have n1_ := Aside0.mk (blk_below (g := gy) (o := .cells #[.int .u8 (y0.toNat : Int), .int .u8 (y1.toNat : Int), .int .u8 (y2.toNat : Int), .int .u8 (y3.toNat : Int)] 37 (0, 0)) (by (with_reducible repeat (first | refine blk_drewN ?_ _ | refine blk_drew ?_ | refine blk_alloc ?_ _)); exact BKgy.out) hb)
            have n2_ := Aside0.mk (blk_below (g := gu) (o := .cells #[.int .i64 0, .int .i64 0, .string (⟨#[]⟩ : ByteArray)] 23 (0, 0)) (by (with_reducible repeat (first | refine blk_drewN ?_ _ | refine blk_drew ?_ | refine blk_alloc ?_ _)); exact BKgu.out) hb)
            have n3_ := Aside0.mk (below_step (by repeat (first | (with_reducible first | exact HB.out | apply below_alloc | apply pw_below_drewN | apply below_drew1 | refine below_set ?_ GEgn.out | refine below_set ?_ GEgy.out | refine below_set ?_ GEgu.out) | exact HB.out)) hb)
            clear BKgn
            clear BKgy
            clear BKgu
            clear HB
            have BKgn := n0_; clear n0_
            have BKgy := n1_; clear n1_
            have BKgu := n2_; clear n2_
            have HB := n3_; clear n3_
            (try clear hb)
            have hcz537 : v13.cell? ⟨gn, 0, none⟩ = some (.int .i64 n0) := (blk_cell BKgn.out 0).trans rfl
            have hfz537 := blk_frozen BKgn.out 0
            have hcz538 : v13.cell? ⟨gn, 1, none⟩ = some (.int .i64 n1) := (blk_cell BKgn.out 1).trans rfl
            have hfz538 := blk_frozen BKgn.out 1
            have hcz539 : v13.cell? ⟨gn, 2, none⟩ = some (.int .i64 n2) := (blk_cell BKgn.out 2).trans rfl
            have hfz539 := blk_frozen BKgn.out 2
            have hcz540 : v13.cell? ⟨gy, 0, none⟩ = some (.int .u8 (y0.toNat : Int)) := (blk_cell BKgy.out 0).trans rfl
            have hfz540 := blk_frozen BKgy.out 0
            have hcz541 : v13.cell? ⟨gy, 1, none⟩ = some (.int .u8 (y1.toNat : Int)) := (blk_cell BKgy.out 1).trans rfl
            have hfz541 := blk_frozen BKgy.out 1
            have hcz542 : v13.cell? ⟨gy, 2, none⟩ = some (.int .u8 (y2.toNat : Int)) := (blk_cell BKgy.out 2).trans rfl
            have hfz542 := blk_frozen BKgy.out 2
            have hcz543 : v13.cell? ⟨gy, 3, none⟩ = some (.int .u8 (y3.toNat : Int)) := (blk_cell BKgy.out 3).trans rfl
            have hfz543 := blk_frozen BKgy.out 3
            have hcz544 : v13.cell? ⟨gu, 0, none⟩ = some (.int .i64 0) := (blk_cell BKgu.out 0).trans rfl
            have hfz544 := blk_frozen BKgu.out 0
            have hcz545 : v13.cell? ⟨gu, 1, none⟩ = some (.int .i64 0) := (blk_cell BKgu.out 1).trans rfl
            have hfz545 := blk_frozen BKgu.out 1
            have hcz546 : v13.cell? ⟨gu, 2, none⟩ = some (.string (⟨#[]⟩ : ByteArray)) := (blk_cell BKgu.out 2).trans rfl
            have hfz546 := blk_frozen BKgu.out 2
            go_wp2_with fail
            go_ret
            exact ⟨rfl, by repeat (first | (with_reducible first | exact HB.out | apply below_alloc | apply pw_below_drewN | apply below_drew1 | refine below_set ?_ GEgn.out | refine below_set ?_ GEgy.out | refine below_set ?_ GEgu.out) | exact HB.out)⟩
end Go.Proofs.YtiajgmocmnjijaaDoor.PagB
