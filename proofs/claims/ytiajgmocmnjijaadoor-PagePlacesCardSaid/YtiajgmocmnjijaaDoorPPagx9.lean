-- Written by a program of this session for this seat. Not trusted: Lean checks it.
import Derived.Test.YtiajgmocmnjijaaDoorPPagx0
import Derived.Test.YtiajgmocmnjijaaDoorPPagx3
import Derived.Test.YtiajgmocmnjijaaDoorPPagx5
namespace Go.Proofs.YtiajgmocmnjijaaDoor.PPag
open Go.RowKit Go.Proofs.YtiajgmocmnjijaaDoorW.PrintWords Go.Proofs.YtiajgmocmnjijaaDoorW.PrintLast Go.Proofs.YtiajgmocmnjijaaDoorW.PrintMore
attribute [local go_sem] max2_int min2_int max_two min_two max_three min_three max_four min_four   -- for this text's walks alone
set_option linter.unusedVariables false
set_option linter.unusedSimpArgs false
open Go.Proofs.YtiajgmocmnjijaaDoor.HW Go.Proofs.YtiajgmocmnjijaaDoor.SumH

/-! ### umbellaw07_PagePlaces: function 5 -/
mutual
def umbellaw07_PagePlaces.j0 : Nat → ByteArray → Bool → Int → Int → ByteArray → Option (Bool)
  | 0, _, _, _, _, _ => none
  | k + 1, x5, x91, x203000, x203001, x203002 => if x91 = true then (some false) else (umbellaw07_PagePlaces.l0 k x5 (wrap64 (9 + (x203002.size : Int))))
def umbellaw07_PagePlaces.l0 : Nat → ByteArray → Int → Option (Bool)
  | 0, _, _ => none
  | k + 1, x5, x7 => if x7 < 252 then (if 0 ≤ x7 then (if x7 < (x5.size : Int) then (if (bt x5 x7) = 0 then (umbellaw07_PagePlaces.l0 k x5 (wrap64 (x7 + 1))) else (some false)) else (none)) else (none)) else ((page_Right.f k x5).bind fun t206 => (if t206 = true then ((umbellaw07_wakes.f k).bind fun t207 => (some t207)) else (some false)))
end
def umbellaw07_PagePlaces.f (k : Nat) (a0_0 : Int) (a0_1 : Int) (a0_2 : ByteArray) (a1 : Int) : Option (Bool) := (page_Put.f k a0_0 a0_1 a0_2 a1).bind fun bt203 => (if bt203.2 = true then (if (bt203.1.size : Int) = 256 then (if 0 < (bt203.1.size : Int) then (if (wrap64 (bt bt203.1 0)) = a0_0 then (if 1 < (bt203.1.size : Int) then (if 2 < (bt203.1.size : Int) then (if (wrap64 ((wrap64 ((wrap64 (bt bt203.1 1)) * 256)) + (wrap64 (bt bt203.1 2)))) = a1 then (if 3 < (bt203.1.size : Int) then (if 4 < (bt203.1.size : Int) then (if 5 < (bt203.1.size : Int) then (if 6 < (bt203.1.size : Int) then (if (wrap64 ((wrap64 ((wrap64 ((wrap64 ((wrap64 (bt bt203.1 3)) * 16777216)) + (wrap64 ((wrap64 (bt bt203.1 4)) * 65536)))) + (wrap64 ((wrap64 (bt bt203.1 5)) * 256)))) + (wrap64 (bt bt203.1 6)))) = a0_1 then (if 7 < (bt203.1.size : Int) then (if 8 < (bt203.1.size : Int) then (if (wrap64 ((wrap64 ((wrap64 (bt bt203.1 7)) * 256)) + (wrap64 (bt bt203.1 8)))) = (a0_2.size : Int) then (if 9 ≤ (wrap64 (9 + (a0_2.size : Int))) then (if (wrap64 (9 + (a0_2.size : Int))) ≤ (bt203.1.size : Int) then (umbellaw07_PagePlaces.j0 k bt203.1 ((bt203.1.extract 9 ((wrap64 (9 + (a0_2.size : Int))) : Int).toNat).toList != a0_2.toList) a0_0 a0_1 a0_2) else (none)) else (none)) else (none)) else (none)) else (none)) else (none)) else (none)) else (none)) else (none)) else (none)) else (none)) else (none)) else (none)) else (none)) else (none)) else (none)) else (if bt203.1.toList = ([] : List UInt8) then ((umbellaw07_wakes.f k).bind fun t205 => (some t205)) else (some false)))
theorem umbellaw07_PagePlaces.mono_l : ∀ k, (∀ y0 y1 y2 y3 y4, LeO (umbellaw07_PagePlaces.j0 k y0 y1 y2 y3 y4) (umbellaw07_PagePlaces.j0 (k + 1) y0 y1 y2 y3 y4)) ∧ (∀ y0 y1, LeO (umbellaw07_PagePlaces.l0 k y0 y1) (umbellaw07_PagePlaces.l0 (k + 1) y0 y1))
  | 0 => ⟨fun _ _ _ _ _ r h => by simp [umbellaw07_PagePlaces.j0] at h, fun _ _ r h => by simp [umbellaw07_PagePlaces.l0] at h⟩
  | k + 1 => by
    obtain ⟨ih0, ih1⟩ := umbellaw07_PagePlaces.mono_l k
    refine ⟨?_, ?_⟩
    · intro y0 y1 y2 y3 y4
      unfold umbellaw07_PagePlaces.j0
      repeat' first
      | (with_reducible exact ih0 _ _ _ _ _)
      | (with_reducible exact ih1 _ _)
      | (with_reducible exact page_Put.mono _ _ _ _ _)
      | (with_reducible exact page_Right.mono _ _)
      | (with_reducible exact umbellaw07_wakes.mono _)
      | (with_reducible exact LeO.refl _)
      | (with_reducible exact LeO.none _)
      | (with_reducible refine LeO.ite ?_ ?_)
      | (with_reducible refine LeO.bind ?_ (fun _ => ?_))
      | exact ih0 _ _ _ _ _
      | exact ih1 _ _
      | exact page_Put.mono _ _ _ _ _
      | exact page_Right.mono _ _
      | exact umbellaw07_wakes.mono _
      | exact LeO.none _
      | refine LeO.ite ?_ ?_
      | refine LeO.bind ?_ (fun _ => ?_)
    · intro y0 y1
      unfold umbellaw07_PagePlaces.l0
      repeat' first
      | (with_reducible exact ih0 _ _ _ _ _)
      | (with_reducible exact ih1 _ _)
      | (with_reducible exact page_Put.mono _ _ _ _ _)
      | (with_reducible exact page_Right.mono _ _)
      | (with_reducible exact umbellaw07_wakes.mono _)
      | (with_reducible exact LeO.refl _)
      | (with_reducible exact LeO.none _)
      | (with_reducible refine LeO.ite ?_ ?_)
      | (with_reducible refine LeO.bind ?_ (fun _ => ?_))
      | exact ih0 _ _ _ _ _
      | exact ih1 _ _
      | exact page_Put.mono _ _ _ _ _
      | exact page_Right.mono _ _
      | exact umbellaw07_wakes.mono _
      | exact LeO.none _
      | refine LeO.ite ?_ ?_
      | refine LeO.bind ?_ (fun _ => ?_)
theorem umbellaw07_PagePlaces.mono : ∀ a0 a1 a2 a3 k, LeO (umbellaw07_PagePlaces.f k a0 a1 a2 a3) (umbellaw07_PagePlaces.f (k + 1) a0 a1 a2 a3) := by
  intro a0 a1 a2 a3 k
  obtain ⟨ih0, ih1⟩ := umbellaw07_PagePlaces.mono_l k
  unfold umbellaw07_PagePlaces.f
  repeat' first
      | (with_reducible exact ih0 _ _ _ _ _)
      | (with_reducible exact ih1 _ _)
      | (with_reducible exact page_Put.mono _ _ _ _ _)
      | (with_reducible exact page_Right.mono _ _)
      | (with_reducible exact umbellaw07_wakes.mono _)
      | (with_reducible exact LeO.refl _)
      | (with_reducible exact LeO.none _)
      | (with_reducible refine LeO.ite ?_ ?_)
      | (with_reducible refine LeO.bind ?_ (fun _ => ?_))
      | exact ih0 _ _ _ _ _
      | exact ih1 _ _
      | exact page_Put.mono _ _ _ _ _
      | exact page_Right.mono _ _
      | exact umbellaw07_wakes.mono _
      | exact LeO.none _
      | refine LeO.ite ?_ ?_
      | refine LeO.bind ?_ (fun _ => ?_)
set_option maxHeartbeats 8000000 in
set_option maxRecDepth 100000 in
theorem umbellaw07_PagePlaces.calls (k : Nat) (a0_0 : Int) (a0_1 : Int) (a0_2 : ByteArray) (a1 : Int) (r : Bool) (w : World) (hG : Glob w) (h : umbellaw07_PagePlaces.f k a0_0 a0_1 a0_2 a1 = some r) :
    Calls Tryd.prog 5 #[.agg #[.int .i64 a0_0, .int .i64 a0_1, .string a0_2], .int .i64 a1] w fun e w' => e = .returned (.bool r) ∧ Below w.heap.size w w' := by
  have hu23 := Tryd.underlying23
  have HG := Aside0.mk hG
  clear hG
  have HB := Aside0.mk (Below.refl w.heap.size w)
  have H : ((page_Put.f k a0_0 a0_1 a0_2 a1).bind fun bt203 => (if bt203.2 = true then (if (bt203.1.size : Int) = 256 then (if 0 < (bt203.1.size : Int) then (if (wrap64 (bt bt203.1 0)) = a0_0 then (if 1 < (bt203.1.size : Int) then (if 2 < (bt203.1.size : Int) then (if (wrap64 ((wrap64 ((wrap64 (bt bt203.1 1)) * 256)) + (wrap64 (bt bt203.1 2)))) = a1 then (if 3 < (bt203.1.size : Int) then (if 4 < (bt203.1.size : Int) then (if 5 < (bt203.1.size : Int) then (if 6 < (bt203.1.size : Int) then (if (wrap64 ((wrap64 ((wrap64 ((wrap64 ((wrap64 (bt bt203.1 3)) * 16777216)) + (wrap64 ((wrap64 (bt bt203.1 4)) * 65536)))) + (wrap64 ((wrap64 (bt bt203.1 5)) * 256)))) + (wrap64 (bt bt203.1 6)))) = a0_1 then (if 7 < (bt203.1.size : Int) then (if 8 < (bt203.1.size : Int) then (if (wrap64 ((wrap64 ((wrap64 (bt bt203.1 7)) * 256)) + (wrap64 (bt bt203.1 8)))) = (a0_2.size : Int) then (if 9 ≤ (wrap64 (9 + (a0_2.size : Int))) then (if (wrap64 (9 + (a0_2.size : Int))) ≤ (bt203.1.size : Int) then (umbellaw07_PagePlaces.j0 k bt203.1 ((bt203.1.extract 9 ((wrap64 (9 + (a0_2.size : Int))) : Int).toNat).toList != a0_2.toList) a0_0 a0_1 a0_2) else (none)) else (none)) else (none)) else (none)) else (none)) else (none)) else (none)) else (none)) else (none)) else (none)) else (none)) else (none)) else (none)) else (none)) else (none)) else (none)) else (if bt203.1.toList = ([] : List UInt8) then ((umbellaw07_wakes.f k).bind fun t205 => (some t205)) else (some false)))) = some r := h
  clear h
  replace H := Option.bind_eq_some_iff.mp H
  obtain ⟨⟨t203, t204⟩, A30, H⟩ := H
  replace H : (if t204 = true then (if (t203.size : Int) = 256 then (if 0 < (t203.size : Int) then (if (wrap64 (bt t203 0)) = a0_0 then (if 1 < (t203.size : Int) then (if 2 < (t203.size : Int) then (if (wrap64 ((wrap64 ((wrap64 (bt t203 1)) * 256)) + (wrap64 (bt t203 2)))) = a1 then (if 3 < (t203.size : Int) then (if 4 < (t203.size : Int) then (if 5 < (t203.size : Int) then (if 6 < (t203.size : Int) then (if (wrap64 ((wrap64 ((wrap64 ((wrap64 ((wrap64 (bt t203 3)) * 16777216)) + (wrap64 ((wrap64 (bt t203 4)) * 65536)))) + (wrap64 ((wrap64 (bt t203 5)) * 256)))) + (wrap64 (bt t203 6)))) = a0_1 then (if 7 < (t203.size : Int) then (if 8 < (t203.size : Int) then (if (wrap64 ((wrap64 ((wrap64 (bt t203 7)) * 256)) + (wrap64 (bt t203 8)))) = (a0_2.size : Int) then (if 9 ≤ (wrap64 (9 + (a0_2.size : Int))) then (if (wrap64 (9 + (a0_2.size : Int))) ≤ (t203.size : Int) then (umbellaw07_PagePlaces.j0 k t203 ((t203.extract 9 ((wrap64 (9 + (a0_2.size : Int))) : Int).toNat).toList != a0_2.toList) a0_0 a0_1 a0_2) else (none)) else (none)) else (none)) else (none)) else (none)) else (none)) else (none)) else (none)) else (none)) else (none)) else (none)) else (none)) else (none)) else (none)) else (none)) else (none)) else (if t203.toList = ([] : List UInt8) then ((umbellaw07_wakes.f k).bind fun t205 => (some t205)) else (some false))) = some r := H
  have A3 := Aside0.mk A30
  clear A30
  by_cases c4 : t204 = true
  · subst c4
    have H1 : (if (t203.size : Int) = 256 then (if 0 < (t203.size : Int) then (if (wrap64 (bt t203 0)) = a0_0 then (if 1 < (t203.size : Int) then (if 2 < (t203.size : Int) then (if (wrap64 ((wrap64 ((wrap64 (bt t203 1)) * 256)) + (wrap64 (bt t203 2)))) = a1 then (if 3 < (t203.size : Int) then (if 4 < (t203.size : Int) then (if 5 < (t203.size : Int) then (if 6 < (t203.size : Int) then (if (wrap64 ((wrap64 ((wrap64 ((wrap64 ((wrap64 (bt t203 3)) * 16777216)) + (wrap64 ((wrap64 (bt t203 4)) * 65536)))) + (wrap64 ((wrap64 (bt t203 5)) * 256)))) + (wrap64 (bt t203 6)))) = a0_1 then (if 7 < (t203.size : Int) then (if 8 < (t203.size : Int) then (if (wrap64 ((wrap64 ((wrap64 (bt t203 7)) * 256)) + (wrap64 (bt t203 8)))) = (a0_2.size : Int) then (if 9 ≤ (wrap64 (9 + (a0_2.size : Int))) then (if (wrap64 (9 + (a0_2.size : Int))) ≤ (t203.size : Int) then (umbellaw07_PagePlaces.j0 k t203 ((t203.extract 9 ((wrap64 (9 + (a0_2.size : Int))) : Int).toNat).toList != a0_2.toList) a0_0 a0_1 a0_2) else (none)) else (none)) else (none)) else (none)) else (none)) else (none)) else (none)) else (none)) else (none)) else (none)) else (none)) else (none)) else (none)) else (none)) else (none)) else (none)) = some r := by rw [if_pos rfl] at H; exact H
    clear H
    have H := H1
    clear H1
    have HC5 := Aside0.mk H
    clear H
    go_enter Tryd.func5, Tryd.ntmps5
    go_upto_region 4 with (first | ((with_reducible refine gate_dst (N := 2) rfl ?_); (try (refine gate_guard (by rfl) ?_; dsimp only)); refine box_event ?hg (N := 2) ?hd (cs := #[.int .i64 a0_0, .int .i64 a0_1, .string a0_2]) (t := 23) ?hr ?_; (case hd => rfl); (case hg => rfl); (case hr => first | (go_simp; done) | (go_simp; rfl)); intro gb202 hg w6 hbox hb; have n0_ := Aside0.mk (below_step (by repeat (first | (with_reducible first | exact HB.out | apply below_alloc | apply pw_below_drewN | apply below_drew1) | exact HB.out)) hb); have n1_ := Aside0.mk (hbox); have n2_ := Aside0.mk ((by rw [hg]; exact (below_size (by repeat (first | (with_reducible first | exact HB.out | apply below_alloc | apply pw_below_drewN | apply below_drew1) | exact HB.out))) : w.heap.size ≤ gb202)); have n3_ := Aside0.mk ((by rw [hg]; exact (below_size (by repeat (first | (with_reducible first | exact HB.out | apply below_alloc | apply pw_below_drewN | apply below_drew1) | exact HB.out))) : w.heap.size ≤ gb202)); clear HB; have HB := n0_; have BK202 := n1_; have GW202 := n2_; have GE202 := n3_; clear n0_ n1_ n2_ n3_; clear hb hbox hg; have hcz7_0 : w6.cell? ⟨gb202, 0, none⟩ = some (.int .i64 a0_0) := (blk_cell BK202.out 0).trans rfl; have hcz7_1 : w6.cell? ⟨gb202, 1, none⟩ = some (.int .i64 a0_1) := (blk_cell BK202.out 1).trans rfl; have hcz7_2 : w6.cell? ⟨gb202, 2, none⟩ = some (.string a0_2) := (blk_cell BK202.out 2).trans rfl; have hfz7_0 := blk_frozen BK202.out 0; have hfz7_1 := blk_frozen BK202.out 1; have hfz7_2 := blk_frozen BK202.out 2) | (go_at_call 11; (with_reducible refine (page_Put.calls k a0_0 a0_1 a0_2 a1 t203 true _ ?side1 A3.out).mono ?_); (case side1 => exact Glob.below HG.out (by repeat (first | (with_reducible first | exact HB.out | apply below_alloc | apply pw_below_drewN | apply below_drew1 | refine below_set ?_ GE202.out) | exact HB.out))); rintro e w8 ⟨rfl, hb⟩; have n0_ := Aside0.mk (blk_below (g := gb202) (o := .cells #[.int .i64 a0_0, .int .i64 a0_1, .string a0_2] 23 (0, 0)) (by (with_reducible repeat (first | refine blk_drewN ?_ _ | refine blk_drew ?_ | refine blk_alloc ?_ _)); exact BK202.out) hb); have n1_ := Aside0.mk (below_step (by repeat (first | (with_reducible first | exact HB.out | apply below_alloc | apply pw_below_drewN | apply below_drew1 | refine below_set ?_ GE202.out) | exact HB.out)) hb); clear BK202; clear HB; have BK202 := n0_; have HB := n1_; clear n0_ n1_; (try clear hb); (try clear hb2); (try clear hk); (try clear hi)))
    repeat (go_quiet (first | ((with_reducible refine gate_dst (N := 2) rfl ?_); (try (refine gate_guard (by rfl) ?_; dsimp only)); refine box_event ?hg (N := 2) ?hd (cs := #[.int .i64 a0_0, .int .i64 a0_1, .string a0_2]) (t := 23) ?hr ?_; (case hd => rfl); (case hg => rfl); (case hr => first | (go_simp; done) | (go_simp; rfl)); intro gb202 hg w6 hbox hb; have n0_ := Aside0.mk (below_step (by repeat (first | (with_reducible first | exact HB.out | apply below_alloc | apply pw_below_drewN | apply below_drew1) | exact HB.out)) hb); have n1_ := Aside0.mk (hbox); have n2_ := Aside0.mk ((by rw [hg]; exact (below_size (by repeat (first | (with_reducible first | exact HB.out | apply below_alloc | apply pw_below_drewN | apply below_drew1) | exact HB.out))) : w.heap.size ≤ gb202)); have n3_ := Aside0.mk ((by rw [hg]; exact (below_size (by repeat (first | (with_reducible first | exact HB.out | apply below_alloc | apply pw_below_drewN | apply below_drew1) | exact HB.out))) : w.heap.size ≤ gb202)); clear HB; have HB := n0_; have BK202 := n1_; have GW202 := n2_; have GE202 := n3_; clear n0_ n1_ n2_ n3_; clear hb hbox hg; have hcz7_0 : w6.cell? ⟨gb202, 0, none⟩ = some (.int .i64 a0_0) := (blk_cell BK202.out 0).trans rfl; have hcz7_1 : w6.cell? ⟨gb202, 1, none⟩ = some (.int .i64 a0_1) := (blk_cell BK202.out 1).trans rfl; have hcz7_2 : w6.cell? ⟨gb202, 2, none⟩ = some (.string a0_2) := (blk_cell BK202.out 2).trans rfl; have hfz7_0 := blk_frozen BK202.out 0; have hfz7_1 := blk_frozen BK202.out 1; have hfz7_2 := blk_frozen BK202.out 2) | (go_at_call 11; (with_reducible refine (page_Put.calls k a0_0 a0_1 a0_2 a1 t203 true _ ?side1 A3.out).mono ?_); (case side1 => exact Glob.below HG.out (by repeat (first | (with_reducible first | exact HB.out | apply below_alloc | apply pw_below_drewN | apply below_drew1 | refine below_set ?_ GE202.out) | exact HB.out))); rintro e w8 ⟨rfl, hb⟩; have n0_ := Aside0.mk (blk_below (g := gb202) (o := .cells #[.int .i64 a0_0, .int .i64 a0_1, .string a0_2] 23 (0, 0)) (by (with_reducible repeat (first | refine blk_drewN ?_ _ | refine blk_drew ?_ | refine blk_alloc ?_ _)); exact BK202.out) hb); have n1_ := Aside0.mk (below_step (by repeat (first | (with_reducible first | exact HB.out | apply below_alloc | apply pw_below_drewN | apply below_drew1 | refine below_set ?_ GE202.out) | exact HB.out)) hb); clear BK202; clear HB; have BK202 := n0_; have HB := n1_; clear n0_ n1_; (try clear hb); (try clear hb2); (try clear hk); (try clear hi))); go_upto_region 4 with (first | ((with_reducible refine gate_dst (N := 2) rfl ?_); (try (refine gate_guard (by rfl) ?_; dsimp only)); refine box_event ?hg (N := 2) ?hd (cs := #[.int .i64 a0_0, .int .i64 a0_1, .string a0_2]) (t := 23) ?hr ?_; (case hd => rfl); (case hg => rfl); (case hr => first | (go_simp; done) | (go_simp; rfl)); intro gb202 hg w6 hbox hb; have n0_ := Aside0.mk (below_step (by repeat (first | (with_reducible first | exact HB.out | apply below_alloc | apply pw_below_drewN | apply below_drew1) | exact HB.out)) hb); have n1_ := Aside0.mk (hbox); have n2_ := Aside0.mk ((by rw [hg]; exact (below_size (by repeat (first | (with_reducible first | exact HB.out | apply below_alloc | apply pw_below_drewN | apply below_drew1) | exact HB.out))) : w.heap.size ≤ gb202)); have n3_ := Aside0.mk ((by rw [hg]; exact (below_size (by repeat (first | (with_reducible first | exact HB.out | apply below_alloc | apply pw_below_drewN | apply below_drew1) | exact HB.out))) : w.heap.size ≤ gb202)); clear HB; have HB := n0_; have BK202 := n1_; have GW202 := n2_; have GE202 := n3_; clear n0_ n1_ n2_ n3_; clear hb hbox hg; have hcz7_0 : w6.cell? ⟨gb202, 0, none⟩ = some (.int .i64 a0_0) := (blk_cell BK202.out 0).trans rfl; have hcz7_1 : w6.cell? ⟨gb202, 1, none⟩ = some (.int .i64 a0_1) := (blk_cell BK202.out 1).trans rfl; have hcz7_2 : w6.cell? ⟨gb202, 2, none⟩ = some (.string a0_2) := (blk_cell BK202.out 2).trans rfl; have hfz7_0 := blk_frozen BK202.out 0; have hfz7_1 := blk_frozen BK202.out 1; have hfz7_2 := blk_frozen BK202.out 2) | (go_at_call 11; (with_reducible refine (page_Put.calls k a0_0 a0_1 a0_2 a1 t203 true _ ?side1 A3.out).mono ?_); (case side1 => exact Glob.below HG.out (by repeat (first | (with_reducible first | exact HB.out | apply below_alloc | apply pw_below_drewN | apply below_drew1 | refine below_set ?_ GE202.out) | exact HB.out))); rintro e w8 ⟨rfl, hb⟩; have n0_ := Aside0.mk (blk_below (g := gb202) (o := .cells #[.int .i64 a0_0, .int .i64 a0_1, .string a0_2] 23 (0, 0)) (by (with_reducible repeat (first | refine blk_drewN ?_ _ | refine blk_drew ?_ | refine blk_alloc ?_ _)); exact BK202.out) hb); have n1_ := Aside0.mk (below_step (by repeat (first | (with_reducible first | exact HB.out | apply below_alloc | apply pw_below_drewN | apply below_drew1 | refine below_set ?_ GE202.out) | exact HB.out)) hb); clear BK202; clear HB; have BK202 := n0_; have HB := n1_; clear n0_ n1_; (try clear hb); (try clear hb2); (try clear hk); (try clear hi))))
    (try simp only [Act.put, List.setIfInBounds_toArray, List.set_cons_zero, List.set_cons_succ])
    go_cut [91] (fun v91 wc => ∃ (kq : Nat) (x91_4 : Bool), v91 = .bool x91_4 ∧ Aside0 (umbellaw07_PagePlaces.j0 kq t203 x91_4 a0_0 a0_1 a0_2 = some r) ∧ Aside0 (kq ≤ k) ∧ Aside0 (wc.heap[gb202]? = some (.cells #[.int .i64 a0_0, .int .i64 a0_1, .string a0_2] 23 (0, 0))) ∧ Aside0 (Below w.heap.size w wc))
    case first =>
      have H := HC5.out
      clear HC5
      by_cases c9 : (t203.size : Int) = 256
      · rw [if_pos c9] at H
        have c9b0 : ((t203.size : Int) == 256) = true := beq_iff_eq.mpr c9
        have c9b1 : ((t203.size : Int) != 256) = false := bne_eq_false_iff_eq.mpr c9
        clear c9
        (first | rw [c9b0] | (simp only [i64_w, i32_w]; rw [c9b0]) | skip)
        by_cases c10 : 0 < (t203.size : Int)
        · rw [if_pos c10] at H
          have c10b0 : decide (0 < (t203.size : Int)) = true := decide_eq_true c10
          have c10b1 : decide (0 < t203.size) = true := decide_eq_true (by omega)
          clear c10
          by_cases c12 : (wrap64 (bt t203 0)) = a0_0
          · rw [if_pos c12] at H
            have c12b0 : ((wrap64 (bt t203 0)) == a0_0) = true := beq_iff_eq.mpr c12
            have c12b0w := c12b0
            try simp only [← i64_w] at c12b0w
            have c12b1 : ((wrap64 (bt t203 0)) != a0_0) = false := bne_eq_false_iff_eq.mpr c12
            have c12b1w := c12b1
            try simp only [← i64_w] at c12b1w
            clear c12
            by_cases c13 : 1 < (t203.size : Int)
            · rw [if_pos c13] at H
              have c13b0 : decide (1 < (t203.size : Int)) = true := decide_eq_true c13
              have c13b1 : decide (1 < t203.size) = true := decide_eq_true (by omega)
              clear c13
              by_cases c15 : 2 < (t203.size : Int)
              · rw [if_pos c15] at H
                have c15b0 : decide (2 < (t203.size : Int)) = true := decide_eq_true c15
                have c15b1 : decide (2 < t203.size) = true := decide_eq_true (by omega)
                clear c15
                by_cases c17 : (wrap64 ((wrap64 ((wrap64 (bt t203 1)) * 256)) + (wrap64 (bt t203 2)))) = a1
                · rw [if_pos c17] at H
                  have c17b0 : ((wrap64 ((wrap64 ((wrap64 (bt t203 1)) * 256)) + (wrap64 (bt t203 2)))) == a1) = true := beq_iff_eq.mpr c17
                  have c17b0w := c17b0
                  try simp only [← i64_w] at c17b0w
                  have c17b1 : ((wrap64 ((wrap64 ((wrap64 (bt t203 1)) * 256)) + (wrap64 (bt t203 2)))) != a1) = false := bne_eq_false_iff_eq.mpr c17
                  have c17b1w := c17b1
                  try simp only [← i64_w] at c17b1w
                  clear c17
                  by_cases c18 : 3 < (t203.size : Int)
                  · rw [if_pos c18] at H
                    have c18b0 : decide (3 < (t203.size : Int)) = true := decide_eq_true c18
                    have c18b1 : decide (3 < t203.size) = true := decide_eq_true (by omega)
                    clear c18
                    by_cases c20 : 4 < (t203.size : Int)
                    · rw [if_pos c20] at H
                      have c20b0 : decide (4 < (t203.size : Int)) = true := decide_eq_true c20
                      have c20b1 : decide (4 < t203.size) = true := decide_eq_true (by omega)
                      clear c20
                      by_cases c22 : 5 < (t203.size : Int)
                      · rw [if_pos c22] at H
                        have c22b0 : decide (5 < (t203.size : Int)) = true := decide_eq_true c22
                        have c22b1 : decide (5 < t203.size) = true := decide_eq_true (by omega)
                        clear c22
                        by_cases c24 : 6 < (t203.size : Int)
                        · rw [if_pos c24] at H
                          have c24b0 : decide (6 < (t203.size : Int)) = true := decide_eq_true c24
                          have c24b1 : decide (6 < t203.size) = true := decide_eq_true (by omega)
                          clear c24
                          by_cases c26 : (wrap64 ((wrap64 ((wrap64 ((wrap64 ((wrap64 (bt t203 3)) * 16777216)) + (wrap64 ((wrap64 (bt t203 4)) * 65536)))) + (wrap64 ((wrap64 (bt t203 5)) * 256)))) + (wrap64 (bt t203 6)))) = a0_1
                          · rw [if_pos c26] at H
                            have c26b0 : ((wrap64 ((wrap64 ((wrap64 ((wrap64 ((wrap64 (bt t203 3)) * 16777216)) + (wrap64 ((wrap64 (bt t203 4)) * 65536)))) + (wrap64 ((wrap64 (bt t203 5)) * 256)))) + (wrap64 (bt t203 6)))) == a0_1) = true := beq_iff_eq.mpr c26
                            have c26b0w := c26b0
                            try simp only [← i64_w] at c26b0w
                            have c26b1 : ((wrap64 ((wrap64 ((wrap64 ((wrap64 ((wrap64 (bt t203 3)) * 16777216)) + (wrap64 ((wrap64 (bt t203 4)) * 65536)))) + (wrap64 ((wrap64 (bt t203 5)) * 256)))) + (wrap64 (bt t203 6)))) != a0_1) = false := bne_eq_false_iff_eq.mpr c26
                            have c26b1w := c26b1
                            try simp only [← i64_w] at c26b1w
                            clear c26
                            by_cases c27 : 7 < (t203.size : Int)
                            · rw [if_pos c27] at H
                              have c27b0 : decide (7 < (t203.size : Int)) = true := decide_eq_true c27
                              have c27b1 : decide (7 < t203.size) = true := decide_eq_true (by omega)
                              clear c27
                              by_cases c29 : 8 < (t203.size : Int)
                              · rw [if_pos c29] at H
                                have c29b0 : decide (8 < (t203.size : Int)) = true := decide_eq_true c29
                                have c29b1 : decide (8 < t203.size) = true := decide_eq_true (by omega)
                                clear c29
                                by_cases c31 : (wrap64 ((wrap64 ((wrap64 (bt t203 7)) * 256)) + (wrap64 (bt t203 8)))) = (a0_2.size : Int)
                                · rw [if_pos c31] at H
                                  have c31b0 : ((wrap64 ((wrap64 ((wrap64 (bt t203 7)) * 256)) + (wrap64 (bt t203 8)))) == (a0_2.size : Int)) = true := beq_iff_eq.mpr c31
                                  have c31b0w := c31b0
                                  try simp only [← i64_w] at c31b0w
                                  have c31b1 : ((wrap64 ((wrap64 ((wrap64 (bt t203 7)) * 256)) + (wrap64 (bt t203 8)))) != (a0_2.size : Int)) = false := bne_eq_false_iff_eq.mpr c31
                                  have c31b1w := c31b1
                                  try simp only [← i64_w] at c31b1w
                                  clear c31
                                  by_cases c32 : 9 ≤ (wrap64 (9 + (a0_2.size : Int)))
                                  · rw [if_pos c32] at H
                                    have c32b0 := eq_true c32
                                    have c32b0w := c32b0
                                    try simp only [← i64_w] at c32b0w
                                    have c32b1 : decide (9 ≤ (wrap64 (9 + (a0_2.size : Int)))) = true := decide_eq_true c32
                                    have c32b1w := c32b1
                                    try simp only [← i64_w] at c32b1w
                                    by_cases c33 : (wrap64 (9 + (a0_2.size : Int))) ≤ (t203.size : Int)
                                    · rw [if_pos c33] at H
                                      have c33b0 := eq_true c33
                                      have c33b0w := c33b0
                                      try simp only [← i64_w] at c33b0w
                                      have c33b1 : decide ((wrap64 (9 + (a0_2.size : Int))) ≤ (t203.size : Int)) = true := decide_eq_true c33
                                      have c33b1w := c33b1
                                      try simp only [← i64_w] at c33b1w
                                      have H' := Aside0.mk H
                                      clear H
                                      have p11 : 0 ≤ (0 : Int) := (by omega)
                                      have q11 : 0 < t203.size := (by have : (0 : Int) < (t203.size : Int) := of_decide_eq_true (by first | (with_reducible assumption) | assumption); omega)
                                      have hx11 : ∀ h : 0 < t203.size, ((t203[0]'h).toNat : Int) = bt t203 0 := bt_at t203 0
                                      clear p11
                                      have qi11 : (0 < (t203.size : Int)) = True := eq_true (of_decide_eq_true (by first | (with_reducible assumption) | assumption))
                                      replace q11 := eq_true q11
                                      have hcz34_0 : w8.cell? ⟨gb202, 0, none⟩ = some (.int .i64 a0_0) := (blk_cell BK202.out 0).trans rfl
                                      have hcz34_1 : w8.cell? ⟨gb202, 1, none⟩ = some (.int .i64 a0_1) := (blk_cell BK202.out 1).trans rfl
                                      have hcz34_2 : w8.cell? ⟨gb202, 2, none⟩ = some (.string a0_2) := (blk_cell BK202.out 2).trans rfl
                                      have hfz34_0 := blk_frozen BK202.out 0
                                      have hfz34_1 := blk_frozen BK202.out 1
                                      have hfz34_2 := blk_frozen BK202.out 2
                                      have p14 : 0 ≤ (1 : Int) := (by omega)
                                      have q14 : 1 < t203.size := (by have : (1 : Int) < (t203.size : Int) := of_decide_eq_true (by first | (with_reducible assumption) | assumption); omega)
                                      have hx14 : ∀ h : 1 < t203.size, ((t203[1]'h).toNat : Int) = bt t203 1 := bt_at t203 1
                                      clear p14
                                      have qi14 : (1 < (t203.size : Int)) = True := eq_true (of_decide_eq_true (by first | (with_reducible assumption) | assumption))
                                      replace q14 := eq_true q14
                                      have p16 : 0 ≤ (2 : Int) := (by omega)
                                      have q16 : 2 < t203.size := (by have : (2 : Int) < (t203.size : Int) := of_decide_eq_true (by first | (with_reducible assumption) | assumption); omega)
                                      have hx16 : ∀ h : 2 < t203.size, ((t203[2]'h).toNat : Int) = bt t203 2 := bt_at t203 2
                                      clear p16
                                      have qi16 : (2 < (t203.size : Int)) = True := eq_true (of_decide_eq_true (by first | (with_reducible assumption) | assumption))
                                      replace q16 := eq_true q16
                                      have p19 : 0 ≤ (3 : Int) := (by omega)
                                      have q19 : 3 < t203.size := (by have : (3 : Int) < (t203.size : Int) := of_decide_eq_true (by first | (with_reducible assumption) | assumption); omega)
                                      have hx19 : ∀ h : 3 < t203.size, ((t203[3]'h).toNat : Int) = bt t203 3 := bt_at t203 3
                                      clear p19
                                      have qi19 : (3 < (t203.size : Int)) = True := eq_true (of_decide_eq_true (by first | (with_reducible assumption) | assumption))
                                      replace q19 := eq_true q19
                                      have p21 : 0 ≤ (4 : Int) := (by omega)
                                      have q21 : 4 < t203.size := (by have : (4 : Int) < (t203.size : Int) := of_decide_eq_true (by first | (with_reducible assumption) | assumption); omega)
                                      have hx21 : ∀ h : 4 < t203.size, ((t203[4]'h).toNat : Int) = bt t203 4 := bt_at t203 4
                                      clear p21
                                      have qi21 : (4 < (t203.size : Int)) = True := eq_true (of_decide_eq_true (by first | (with_reducible assumption) | assumption))
                                      replace q21 := eq_true q21
                                      have p23 : 0 ≤ (5 : Int) := (by omega)
                                      have q23 : 5 < t203.size := (by have : (5 : Int) < (t203.size : Int) := of_decide_eq_true (by first | (with_reducible assumption) | assumption); omega)
                                      have hx23 : ∀ h : 5 < t203.size, ((t203[5]'h).toNat : Int) = bt t203 5 := bt_at t203 5
                                      clear p23
                                      have qi23 : (5 < (t203.size : Int)) = True := eq_true (of_decide_eq_true (by first | (with_reducible assumption) | assumption))
                                      replace q23 := eq_true q23
                                      have p25 : 0 ≤ (6 : Int) := (by omega)
                                      have q25 : 6 < t203.size := (by have : (6 : Int) < (t203.size : Int) := of_decide_eq_true (by first | (with_reducible assumption) | assumption); omega)
                                      have hx25 : ∀ h : 6 < t203.size, ((t203[6]'h).toNat : Int) = bt t203 6 := bt_at t203 6
                                      clear p25
                                      have qi25 : (6 < (t203.size : Int)) = True := eq_true (of_decide_eq_true (by first | (with_reducible assumption) | assumption))
                                      replace q25 := eq_true q25
                                      have p28 : 0 ≤ (7 : Int) := (by omega)
                                      have q28 : 7 < t203.size := (by have : (7 : Int) < (t203.size : Int) := of_decide_eq_true (by first | (with_reducible assumption) | assumption); omega)
                                      have hx28 : ∀ h : 7 < t203.size, ((t203[7]'h).toNat : Int) = bt t203 7 := bt_at t203 7
                                      clear p28
                                      have qi28 : (7 < (t203.size : Int)) = True := eq_true (of_decide_eq_true (by first | (with_reducible assumption) | assumption))
                                      replace q28 := eq_true q28
                                      have p30 : 0 ≤ (8 : Int) := (by omega)
                                      have q30 : 8 < t203.size := (by have : (8 : Int) < (t203.size : Int) := of_decide_eq_true (by first | (with_reducible assumption) | assumption); omega)
                                      have hx30 : ∀ h : 8 < t203.size, ((t203[8]'h).toNat : Int) = bt t203 8 := bt_at t203 8
                                      clear p30
                                      have qi30 : (8 < (t203.size : Int)) = True := eq_true (of_decide_eq_true (by first | (with_reducible assumption) | assumption))
                                      replace q30 := eq_true q30
                                      go_wp2
                                      repeat (go_quiet (fail); try go_wp2)
                                      go_meet
                                      case rel => exact ⟨_, (((t203.extract 9 ((wrap64 (9 + (a0_2.size : Int))) : Int).toNat).toList != a0_2.toList)), (by first | rfl | (simp only [i64_w]; rfl) | (simp; done) | (simp [*]; done)), H', ⟨by first | omega | exact Nat.le_refl _⟩, ⟨by (with_reducible repeat (first | refine blk_drewN ?_ _ | refine blk_drew ?_ | refine blk_alloc ?_ _)); exact BK202.out⟩, ⟨by repeat (first | (with_reducible first | exact HB.out | apply below_alloc | apply pw_below_drewN | apply below_drew1 | refine below_set ?_ GE202.out) | exact HB.out)⟩⟩
                                    · rw [if_neg c33] at H
                                      exact absurd H (by simp)
                                  · rw [if_neg c32] at H
                                    exact absurd H (by simp)
                                · rw [if_neg c31] at H
                                  exact absurd H (by simp)
                              · rw [if_neg c29] at H
                                exact absurd H (by simp)
                            · rw [if_neg c27] at H
                              exact absurd H (by simp)
                          · rw [if_neg c26] at H
                            exact absurd H (by simp)
                        · rw [if_neg c24] at H
                          exact absurd H (by simp)
                      · rw [if_neg c22] at H
                        exact absurd H (by simp)
                    · rw [if_neg c20] at H
                      exact absurd H (by simp)
                  · rw [if_neg c18] at H
                    exact absurd H (by simp)
                · rw [if_neg c17] at H
                  exact absurd H (by simp)
              · rw [if_neg c15] at H
                exact absurd H (by simp)
            · rw [if_neg c13] at H
              exact absurd H (by simp)
          · rw [if_neg c12] at H
            exact absurd H (by simp)
        · rw [if_neg c10] at H
          exact absurd H (by simp)
      · rw [if_neg c9] at H
        exact absurd H (by simp)
    case rest =>
      clear HC5
      try clear c1
      try clear p1
      try clear q1
      try clear hx1
      try clear qi1
      try clear c2
      try clear p2
      try clear q2
      try clear hx2
      try clear qi2
      try clear c3
      try clear p3
      try clear q3
      try clear hx3
      try clear qi3
      try clear c4
      try clear c5
      try clear p6
      try clear c9
      try clear c9b0
      try clear c9b1
      try clear c10
      try clear c10b0
      try clear c10b1
      try clear p11
      try clear q11
      try clear hx11
      try clear qi11
      try clear c12
      try clear c12b0
      try clear c12b1
      try clear c13
      try clear c13b0
      try clear c13b1
      try clear p14
      try clear q14
      try clear hx14
      try clear qi14
      try clear c15
      try clear c15b0
      try clear c15b1
      try clear p16
      try clear q16
      try clear hx16
      try clear qi16
      try clear c17
      try clear c17b0
      try clear c17b1
      try clear c18
      try clear c18b0
      try clear c18b1
      try clear p19
      try clear q19
      try clear hx19
      try clear qi19
      try clear c20
      try clear c20b0
      try clear c20b1
      try clear p21
      try clear q21
      try clear hx21
      try clear qi21
      try clear c22
      try clear c22b0
      try clear c22b1
      try clear p23
      try clear q23
      try clear hx23
      try clear qi23
      try clear c24
      try clear c24b0
      try clear c24b1
      try clear p25
      try clear q25
      try clear hx25
      try clear qi25
      try clear c26
      try clear c26b0
      try clear c26b1
      try clear c27
      try clear c27b0
      try clear c27b1
      try clear p28
      try clear q28
      try clear hx28
      try clear qi28
      try clear c29
      try clear c29b0
      try clear c29b1
      try clear p30
      try clear q30
      try clear hx30
      try clear qi30
      try clear c31
      try clear c31b0
      try clear c31b1
      try clear c32
      try clear c32b0
      try clear c32b1
      try clear c33
      try clear c33b0
      try clear c33b1
      try clear hcz34_0
      try clear hcz34_1
      try clear hcz34_2
      try clear hcz35_0
      try clear hcz35_1
      try clear hcz35_2
      try clear hcz36_0
      try clear hcz36_1
      try clear hcz36_2
      try clear hcz37_0
      try clear hcz37_1
      try clear hcz37_2
      try clear hcz38_0
      try clear hcz38_1
      try clear hcz38_2
      try clear hcz7_0
      try clear hcz7_1
      try clear hcz7_2
      try clear hfz34_0
      try clear hfz34_1
      try clear hfz34_2
      try clear hfz35_0
      try clear hfz35_1
      try clear hfz35_2
      try clear hfz36_0
      try clear hfz36_1
      try clear hfz36_2
      try clear hfz37_0
      try clear hfz37_1
      try clear hfz37_2
      try clear hfz38_0
      try clear hfz38_1
      try clear hfz38_2
      try clear hfz7_0
      try clear hfz7_1
      try clear hfz7_2
      try clear p11
      try clear p14
      try clear p16
      try clear p19
      try clear p21
      try clear p23
      try clear p25
      try clear p28
      try clear p30
      try clear q11
      try clear q14
      try clear q16
      try clear q19
      try clear q21
      try clear q23
      try clear q25
      try clear q28
      try clear q30
      obtain ⟨kq, x91_4, rfl, HA, HJ4, BK202, HB⟩ := hcut
      cases kq with
      | zero => exact absurd HA.out (by simp [umbellaw07_PagePlaces.j0])
      | succ kj4 =>
        have H := HA.out
        clear HA
        simp only [umbellaw07_PagePlaces.j0] at H
        by_cases c39 : x91_4 = true
        · subst c39
          have H1 : (some false) = some r := by rw [if_pos rfl] at H; exact H
          clear H
          have H := H1
          clear H1
          obtain rfl := Option.some.inj H
          go_wp2
          repeat (go_quiet (fail); try go_wp2)
          go_ret
          exact ⟨by first | rfl | (simp [errW_none, errW_some] <;> rfl) | (simp [*, errW_none, errW_some] <;> rfl), by repeat (first | (with_reducible first | exact HB.out | apply below_alloc | apply pw_below_drewN | apply below_drew1 | refine below_set ?_ GE202.out) | exact HB.out)⟩
        · replace c39 := Bool.eq_false_iff.mpr c39
          subst c39
          have H1 : (umbellaw07_PagePlaces.l0 kj4 t203 (wrap64 (9 + (a0_2.size : Int)))) = some r := by rw [if_neg (show ¬ (false = true) by decide)] at H; exact H
          clear H
          have H := H1
          clear H1
          have H' := Aside0.mk H
          clear H
          have hcz40_0 : wc.cell? ⟨gb202, 0, none⟩ = some (.int .i64 a0_0) := (blk_cell BK202.out 0).trans rfl
          have hcz40_1 : wc.cell? ⟨gb202, 1, none⟩ = some (.int .i64 a0_1) := (blk_cell BK202.out 1).trans rfl
          have hcz40_2 : wc.cell? ⟨gb202, 2, none⟩ = some (.string a0_2) := (blk_cell BK202.out 2).trans rfl
          have hfz40_0 := blk_frozen BK202.out 0
          have hfz40_1 := blk_frozen BK202.out 1
          have hfz40_2 := blk_frozen BK202.out 2
          go_wp2
          repeat (go_quiet (fail); try go_wp2)
          go_loopg [7] kj4 (fun kq v7 w' => ∃ (x7_2 : Int), v7 = .int .i64 x7_2 ∧ Aside0 (umbellaw07_PagePlaces.l0 kq t203 x7_2 = some r) ∧ Aside0 (kq ≤ kj4) ∧ Aside0 (w'.heap[gb202]? = some (.cells #[.int .i64 a0_0, .int .i64 a0_1, .string a0_2] 23 (0, 0))) ∧ Aside0 (Below w.heap.size w w'))
          case atStart => exact ⟨(wrap64 (9 + (a0_2.size : Int))), (by first | rfl | (simp; done) | (simp [*]; done)), H', ⟨Nat.le_refl _⟩, ⟨by (with_reducible repeat (first | refine blk_drewN ?_ _ | refine blk_drew ?_ | refine blk_alloc ?_ _)); exact BK202.out⟩, ⟨by repeat (first | (with_reducible first | exact HB.out | apply below_alloc | apply pw_below_drewN | apply below_drew1 | refine below_set ?_ GE202.out) | exact HB.out)⟩⟩
          case round =>
            clear H'
            try clear c1
            try clear p1
            try clear q1
            try clear hx1
            try clear qi1
            try clear c2
            try clear p2
            try clear q2
            try clear hx2
            try clear qi2
            try clear c3
            try clear p3
            try clear q3
            try clear hx3
            try clear qi3
            try clear c4
            try clear c5
            try clear p6
            try clear c9
            try clear c9b0
            try clear c9b1
            try clear c10
            try clear c10b0
            try clear c10b1
            try clear p11
            try clear q11
            try clear hx11
            try clear qi11
            try clear c12
            try clear c12b0
            try clear c12b1
            try clear c13
            try clear c13b0
            try clear c13b1
            try clear p14
            try clear q14
            try clear hx14
            try clear qi14
            try clear c15
            try clear c15b0
            try clear c15b1
            try clear p16
            try clear q16
            try clear hx16
            try clear qi16
            try clear c17
            try clear c17b0
            try clear c17b1
            try clear c18
            try clear c18b0
            try clear c18b1
            try clear p19
            try clear q19
            try clear hx19
            try clear qi19
            try clear c20
            try clear c20b0
            try clear c20b1
            try clear p21
            try clear q21
            try clear hx21
            try clear qi21
            try clear c22
            try clear c22b0
            try clear c22b1
            try clear p23
            try clear q23
            try clear hx23
            try clear qi23
            try clear c24
            try clear c24b0
            try clear c24b1
            try clear p25
            try clear q25
            try clear hx25
            try clear qi25
            try clear c26
            try clear c26b0
            try clear c26b1
            try clear c27
            try clear c27b0
            try clear c27b1
            try clear p28
            try clear q28
            try clear hx28
            try clear qi28
            try clear c29
            try clear c29b0
            try clear c29b1
            try clear p30
            try clear q30
            try clear hx30
            try clear qi30
            try clear c31
            try clear c31b0
            try clear c31b1
            try clear c32
            try clear c32b0
            try clear c32b1
            try clear c33
            try clear c33b0
            try clear c33b1
            try clear c39
            try clear hcz34_0
            try clear hcz34_1
            try clear hcz34_2
            try clear hcz35_0
            try clear hcz35_1
            try clear hcz35_2
            try clear hcz36_0
            try clear hcz36_1
            try clear hcz36_2
            try clear hcz37_0
            try clear hcz37_1
            try clear hcz37_2
            try clear hcz38_0
            try clear hcz38_1
            try clear hcz38_2
            try clear hcz40_0
            try clear hcz40_1
            try clear hcz40_2
            try clear hcz7_0
            try clear hcz7_1
            try clear hcz7_2
            try clear hfz34_0
            try clear hfz34_1
            try clear hfz34_2
            try clear hfz35_0
            try clear hfz35_1
            try clear hfz35_2
            try clear hfz36_0
            try clear hfz36_1
            try clear hfz36_2
            try clear hfz37_0
            try clear hfz37_1
            try clear hfz37_2
            try clear hfz38_0
            try clear hfz38_1
            try clear hfz38_2
            try clear hfz40_0
            try clear hfz40_1
            try clear hfz40_2
            try clear hfz7_0
            try clear hfz7_1
            try clear hfz7_2
            try clear p1
            try clear p11
            try clear p14
            try clear p16
            try clear p19
            try clear p2
            try clear p21
            try clear p23
            try clear p25
            try clear p28
            try clear p3
            try clear p30
            try clear p6
            try clear q1
            try clear q11
            try clear q14
            try clear q16
            try clear q19
            try clear q2
            try clear q21
            try clear q23
            try clear q25
            try clear q28
            try clear q3
            try clear q30
            obtain ⟨x7_2, rfl, HA, HK2, BK202, HB⟩ := hrel
            cases gk with
            | zero => exact absurd HA.out (by simp [umbellaw07_PagePlaces.l0])
            | succ k2 =>
              have H := HA.out
              clear HA
              simp only [umbellaw07_PagePlaces.l0] at H
              by_cases c41 : x7_2 < 252
              · rw [if_pos c41] at H
                have c41b0 : decide (x7_2 < 252) = true := decide_eq_true c41
                clear c41
                by_cases c42 : 0 ≤ x7_2
                · rw [if_pos c42] at H
                  have c42b0 : decide (0 ≤ x7_2) = true := decide_eq_true c42
                  clear c42
                  by_cases c43 : x7_2 < (t203.size : Int)
                  · rw [if_pos c43] at H
                    have c43b0 : decide (x7_2 < (t203.size : Int)) = true := decide_eq_true c43
                    clear c43
                    by_cases c45 : (bt t203 x7_2) = 0
                    · rw [if_pos c45] at H
                      have c45b0 : ((bt t203 x7_2) == 0) = true := beq_iff_eq.mpr c45
                      have c45b1 : ((bt t203 x7_2) != 0) = false := bne_eq_false_iff_eq.mpr c45
                      clear c45
                      have H' := Aside0.mk H
                      clear H
                      have p44 : 0 ≤ (x7_2 : Int) := of_decide_eq_true (by first | (with_reducible assumption) | assumption)
                      have q44 : x7_2 < (t203.size : Int) := of_decide_eq_true (by first | (with_reducible assumption) | assumption)
                      have hx44 := bt_at t203 x7_2
                      replace p44 := eq_true p44
                      replace q44 := eq_true q44
                      go_wp2
                      repeat (go_quiet (fail); try go_wp2)
                      go_roundg k2
                      case measure => have := HJ4.out; have := HK2.out; omega
                      case rel => exact ⟨(wrap64 (x7_2 + 1)), (by first | rfl | (simp; done) | (simp [*]; done)), H', ⟨by have := HJ4.out; have := HK2.out; omega⟩, ⟨by (with_reducible repeat (first | refine blk_drewN ?_ _ | refine blk_drew ?_ | refine blk_alloc ?_ _)); exact BK202.out⟩, ⟨by repeat (first | (with_reducible first | exact HB.out | apply below_alloc | apply pw_below_drewN | apply below_drew1 | refine below_set ?_ GE202.out) | exact HB.out)⟩⟩
                    · rw [if_neg c45] at H
                      have c45b0 : ((bt t203 x7_2) == 0) = false := beq_eq_false_iff_ne.mpr c45
                      have c45b1 : ((bt t203 x7_2) != 0) = true := bne_iff_ne.mpr c45
                      obtain rfl := Option.some.inj H
                      have p44 : 0 ≤ (x7_2 : Int) := of_decide_eq_true (by first | (with_reducible assumption) | assumption)
                      have q44 : x7_2 < (t203.size : Int) := of_decide_eq_true (by first | (with_reducible assumption) | assumption)
                      have hx44 := bt_at t203 x7_2
                      replace p44 := eq_true p44
                      replace q44 := eq_true q44
                      go_wp2
                      repeat (go_quiet (fail); try go_wp2)
                      go_ret
                      exact ⟨by first | rfl | (simp [errW_none, errW_some] <;> rfl) | (simp [*, errW_none, errW_some] <;> rfl), by repeat (first | (with_reducible first | exact HB.out | apply below_alloc | apply pw_below_drewN | apply below_drew1 | refine below_set ?_ GE202.out) | exact HB.out)⟩
                  · rw [if_neg c43] at H
                    exact absurd H (by simp)
                · rw [if_neg c42] at H
                  exact absurd H (by simp)
              · rw [if_neg c41] at H
                have c41b0 : decide (x7_2 < 252) = false := decide_eq_false c41
                clear c41
                replace H := Option.bind_eq_some_iff.mp H
                obtain ⟨t206, A460, H⟩ := H
                replace H : (if t206 = true then ((umbellaw07_wakes.f k2).bind fun t207 => (some t207)) else (some false)) = some r := H
                have A46 := Aside0.mk A460
                clear A460
                by_cases c47 : t206 = true
                · subst c47
                  have H1 : ((umbellaw07_wakes.f k2).bind fun t207 => (some t207)) = some r := by rw [if_pos rfl] at H; exact H
                  clear H
                  have H := H1
                  clear H1
                  replace H := Option.bind_eq_some_iff.mp H
                  obtain ⟨t207, A480, H⟩ := H
                  replace H : (some t207) = some r := H
                  have A48 := Aside0.mk A480
                  clear A480
                  obtain rfl := Option.some.inj H
                  go_wp2_with (first | (go_at_call 15; (with_reducible refine (page_Right.calls k2 t203 true _ ?side1 A46.out).mono ?_); (case side1 => exact Glob.below HG.out (by repeat (first | (with_reducible first | exact HB.out | apply below_alloc | apply pw_below_drewN | apply below_drew1 | refine below_set ?_ GE202.out) | exact HB.out))); rintro e w' ⟨rfl, ⟨nd, rfl⟩⟩; (try first | exact ⟨rfl, _, World.drewN_drewN _ _ _⟩ | exact ⟨rfl, _, Eq.trans (World.drewN_drewN _ _ _) (congrArg (World.drewN _) (Nat.add_assoc _ _ _))⟩)) | (go_at_call 10; (with_reducible refine (umbellaw07_wakes.calls k2  t207 _ ?side1 A48.out).mono ?_); (case side1 => exact Glob.below HG.out (by repeat (first | (with_reducible first | exact HB.out | apply below_alloc | apply pw_below_drewN | apply below_drew1 | refine below_set ?_ GE202.out) | exact HB.out))); rintro e w49 ⟨rfl, hb⟩; have n0_ := Aside0.mk (blk_below (g := gb202) (o := .cells #[.int .i64 a0_0, .int .i64 a0_1, .string a0_2] 23 (0, 0)) (by (with_reducible repeat (first | refine blk_drewN ?_ _ | refine blk_drew ?_ | refine blk_alloc ?_ _)); exact BK202.out) hb); have n1_ := Aside0.mk (below_step (by repeat (first | (with_reducible first | exact HB.out | apply below_alloc | apply pw_below_drewN | apply below_drew1 | refine below_set ?_ GE202.out) | exact HB.out)) hb); clear BK202; clear HB; have BK202 := n0_; have HB := n1_; clear n0_ n1_; (try clear hb); (try clear hb2); (try clear hk); (try clear hi)))
                  repeat (go_quiet (first | (go_at_call 15; (with_reducible refine (page_Right.calls k2 t203 true _ ?side1 A46.out).mono ?_); (case side1 => exact Glob.below HG.out (by repeat (first | (with_reducible first | exact HB.out | apply below_alloc | apply pw_below_drewN | apply below_drew1 | refine below_set ?_ GE202.out) | exact HB.out))); rintro e w' ⟨rfl, ⟨nd, rfl⟩⟩; (try first | exact ⟨rfl, _, World.drewN_drewN _ _ _⟩ | exact ⟨rfl, _, Eq.trans (World.drewN_drewN _ _ _) (congrArg (World.drewN _) (Nat.add_assoc _ _ _))⟩)) | (go_at_call 10; (with_reducible refine (umbellaw07_wakes.calls k2  t207 _ ?side1 A48.out).mono ?_); (case side1 => exact Glob.below HG.out (by repeat (first | (with_reducible first | exact HB.out | apply below_alloc | apply pw_below_drewN | apply below_drew1 | refine below_set ?_ GE202.out) | exact HB.out))); rintro e w49 ⟨rfl, hb⟩; have n0_ := Aside0.mk (blk_below (g := gb202) (o := .cells #[.int .i64 a0_0, .int .i64 a0_1, .string a0_2] 23 (0, 0)) (by (with_reducible repeat (first | refine blk_drewN ?_ _ | refine blk_drew ?_ | refine blk_alloc ?_ _)); exact BK202.out) hb); have n1_ := Aside0.mk (below_step (by repeat (first | (with_reducible first | exact HB.out | apply below_alloc | apply pw_below_drewN | apply below_drew1 | refine below_set ?_ GE202.out) | exact HB.out)) hb); clear BK202; clear HB; have BK202 := n0_; have HB := n1_; clear n0_ n1_; (try clear hb); (try clear hb2); (try clear hk); (try clear hi))); try go_wp2_with (first | (go_at_call 15; (with_reducible refine (page_Right.calls k2 t203 true _ ?side1 A46.out).mono ?_); (case side1 => exact Glob.below HG.out (by repeat (first | (with_reducible first | exact HB.out | apply below_alloc | apply pw_below_drewN | apply below_drew1 | refine below_set ?_ GE202.out) | exact HB.out))); rintro e w' ⟨rfl, ⟨nd, rfl⟩⟩; (try first | exact ⟨rfl, _, World.drewN_drewN _ _ _⟩ | exact ⟨rfl, _, Eq.trans (World.drewN_drewN _ _ _) (congrArg (World.drewN _) (Nat.add_assoc _ _ _))⟩)) | (go_at_call 10; (with_reducible refine (umbellaw07_wakes.calls k2  t207 _ ?side1 A48.out).mono ?_); (case side1 => exact Glob.below HG.out (by repeat (first | (with_reducible first | exact HB.out | apply below_alloc | apply pw_below_drewN | apply below_drew1 | refine below_set ?_ GE202.out) | exact HB.out))); rintro e w49 ⟨rfl, hb⟩; have n0_ := Aside0.mk (blk_below (g := gb202) (o := .cells #[.int .i64 a0_0, .int .i64 a0_1, .string a0_2] 23 (0, 0)) (by (with_reducible repeat (first | refine blk_drewN ?_ _ | refine blk_drew ?_ | refine blk_alloc ?_ _)); exact BK202.out) hb); have n1_ := Aside0.mk (below_step (by repeat (first | (with_reducible first | exact HB.out | apply below_alloc | apply pw_below_drewN | apply below_drew1 | refine below_set ?_ GE202.out) | exact HB.out)) hb); clear BK202; clear HB; have BK202 := n0_; have HB := n1_; clear n0_ n1_; (try clear hb); (try clear hb2); (try clear hk); (try clear hi))))
                  go_ret
                  exact ⟨by first | rfl | (simp [errW_none, errW_some] <;> rfl) | (simp [*, errW_none, errW_some] <;> rfl), by repeat (first | (with_reducible first | exact HB.out | apply below_alloc | apply pw_below_drewN | apply below_drew1 | refine below_set ?_ GE202.out) | exact HB.out)⟩
                · replace c47 := Bool.eq_false_iff.mpr c47
                  subst c47
                  have H1 : (some false) = some r := by rw [if_neg (show ¬ (false = true) by decide)] at H; exact H
                  clear H
                  have H := H1
                  clear H1
                  obtain rfl := Option.some.inj H
                  go_wp2_with (first | (go_at_call 15; (with_reducible refine (page_Right.calls k2 t203 false _ ?side1 A46.out).mono ?_); (case side1 => exact Glob.below HG.out (by repeat (first | (with_reducible first | exact HB.out | apply below_alloc | apply pw_below_drewN | apply below_drew1 | refine below_set ?_ GE202.out) | exact HB.out))); rintro e w' ⟨rfl, ⟨nd, rfl⟩⟩; (try first | exact ⟨rfl, _, World.drewN_drewN _ _ _⟩ | exact ⟨rfl, _, Eq.trans (World.drewN_drewN _ _ _) (congrArg (World.drewN _) (Nat.add_assoc _ _ _))⟩)))
                  repeat (go_quiet (first | (go_at_call 15; (with_reducible refine (page_Right.calls k2 t203 false _ ?side1 A46.out).mono ?_); (case side1 => exact Glob.below HG.out (by repeat (first | (with_reducible first | exact HB.out | apply below_alloc | apply pw_below_drewN | apply below_drew1 | refine below_set ?_ GE202.out) | exact HB.out))); rintro e w' ⟨rfl, ⟨nd, rfl⟩⟩; (try first | exact ⟨rfl, _, World.drewN_drewN _ _ _⟩ | exact ⟨rfl, _, Eq.trans (World.drewN_drewN _ _ _) (congrArg (World.drewN _) (Nat.add_assoc _ _ _))⟩))); try go_wp2_with (first | (go_at_call 15; (with_reducible refine (page_Right.calls k2 t203 false _ ?side1 A46.out).mono ?_); (case side1 => exact Glob.below HG.out (by repeat (first | (with_reducible first | exact HB.out | apply below_alloc | apply pw_below_drewN | apply below_drew1 | refine below_set ?_ GE202.out) | exact HB.out))); rintro e w' ⟨rfl, ⟨nd, rfl⟩⟩; (try first | exact ⟨rfl, _, World.drewN_drewN _ _ _⟩ | exact ⟨rfl, _, Eq.trans (World.drewN_drewN _ _ _) (congrArg (World.drewN _) (Nat.add_assoc _ _ _))⟩))))
                  go_ret
                  exact ⟨by first | rfl | (simp [errW_none, errW_some] <;> rfl) | (simp [*, errW_none, errW_some] <;> rfl), by repeat (first | (with_reducible first | exact HB.out | apply below_alloc | apply pw_below_drewN | apply below_drew1 | refine below_set ?_ GE202.out) | exact HB.out)⟩
  · replace c4 := Bool.eq_false_iff.mpr c4
    subst c4
    have H1 : (if t203.toList = ([] : List UInt8) then ((umbellaw07_wakes.f k).bind fun t205 => (some t205)) else (some false)) = some r := by rw [if_neg (show ¬ (false = true) by decide)] at H; exact H
    clear H
    have H := H1
    clear H1
    by_cases c50 : t203.toList = ([] : List UInt8)
    · rw [if_pos c50] at H
      have c50b0 : (t203.toList == ([] : List UInt8)) = true := beq_iff_eq.mpr c50
      have c50b1 : (t203.toList != ([] : List UInt8)) = false := bne_eq_false_iff_eq.mpr c50
      clear c50
      replace H := Option.bind_eq_some_iff.mp H
      obtain ⟨t205, A510, H⟩ := H
      replace H : (some t205) = some r := H
      have A51 := Aside0.mk A510
      clear A510
      obtain rfl := Option.some.inj H
      go_enter Tryd.func5, Tryd.ntmps5
      go_wp2_with (first | ((with_reducible refine gate_dst (N := 2) rfl ?_); (try (refine gate_guard (by rfl) ?_; dsimp only)); refine box_event ?hg (N := 2) ?hd (cs := #[.int .i64 a0_0, .int .i64 a0_1, .string a0_2]) (t := 23) ?hr ?_; (case hd => rfl); (case hg => rfl); (case hr => first | (go_simp; done) | (go_simp; rfl)); intro gb202 hg w52 hbox hb; have n0_ := Aside0.mk (below_step (by repeat (first | (with_reducible first | exact HB.out | apply below_alloc | apply pw_below_drewN | apply below_drew1) | exact HB.out)) hb); have n1_ := Aside0.mk (hbox); have n2_ := Aside0.mk ((by rw [hg]; exact (below_size (by repeat (first | (with_reducible first | exact HB.out | apply below_alloc | apply pw_below_drewN | apply below_drew1) | exact HB.out))) : w.heap.size ≤ gb202)); have n3_ := Aside0.mk ((by rw [hg]; exact (below_size (by repeat (first | (with_reducible first | exact HB.out | apply below_alloc | apply pw_below_drewN | apply below_drew1) | exact HB.out))) : w.heap.size ≤ gb202)); clear HB; have HB := n0_; have BK202 := n1_; have GW202 := n2_; have GE202 := n3_; clear n0_ n1_ n2_ n3_; clear hb hbox hg; have hcz53_0 : w52.cell? ⟨gb202, 0, none⟩ = some (.int .i64 a0_0) := (blk_cell BK202.out 0).trans rfl; have hcz53_1 : w52.cell? ⟨gb202, 1, none⟩ = some (.int .i64 a0_1) := (blk_cell BK202.out 1).trans rfl; have hcz53_2 : w52.cell? ⟨gb202, 2, none⟩ = some (.string a0_2) := (blk_cell BK202.out 2).trans rfl; have hfz53_0 := blk_frozen BK202.out 0; have hfz53_1 := blk_frozen BK202.out 1; have hfz53_2 := blk_frozen BK202.out 2) | (go_at_call 11; (with_reducible refine (page_Put.calls k a0_0 a0_1 a0_2 a1 t203 false _ ?side1 A3.out).mono ?_); (case side1 => exact Glob.below HG.out (by repeat (first | (with_reducible first | exact HB.out | apply below_alloc | apply pw_below_drewN | apply below_drew1 | refine below_set ?_ GE202.out) | exact HB.out))); rintro e w54 ⟨rfl, hb⟩; have n0_ := Aside0.mk (blk_below (g := gb202) (o := .cells #[.int .i64 a0_0, .int .i64 a0_1, .string a0_2] 23 (0, 0)) (by (with_reducible repeat (first | refine blk_drewN ?_ _ | refine blk_drew ?_ | refine blk_alloc ?_ _)); exact BK202.out) hb); have n1_ := Aside0.mk (below_step (by repeat (first | (with_reducible first | exact HB.out | apply below_alloc | apply pw_below_drewN | apply below_drew1 | refine below_set ?_ GE202.out) | exact HB.out)) hb); clear BK202; clear HB; have BK202 := n0_; have HB := n1_; clear n0_ n1_; (try clear hb); (try clear hb2); (try clear hk); (try clear hi)) | (go_at_call 10; (with_reducible refine (umbellaw07_wakes.calls k  t205 _ ?side1 A51.out).mono ?_); (case side1 => exact Glob.below HG.out (by repeat (first | (with_reducible first | exact HB.out | apply below_alloc | apply pw_below_drewN | apply below_drew1 | refine below_set ?_ GE202.out) | exact HB.out))); rintro e w55 ⟨rfl, hb⟩; have n0_ := Aside0.mk (blk_below (g := gb202) (o := .cells #[.int .i64 a0_0, .int .i64 a0_1, .string a0_2] 23 (0, 0)) (by (with_reducible repeat (first | refine blk_drewN ?_ _ | refine blk_drew ?_ | refine blk_alloc ?_ _)); exact BK202.out) hb); have n1_ := Aside0.mk (below_step (by repeat (first | (with_reducible first | exact HB.out | apply below_alloc | apply pw_below_drewN | apply below_drew1 | refine below_set ?_ GE202.out) | exact HB.out)) hb); clear BK202; clear HB; have BK202 := n0_; have HB := n1_; clear n0_ n1_; (try clear hb); (try clear hb2); (try clear hk); (try clear hi)))
      repeat (go_quiet (first | ((with_reducible refine gate_dst (N := 2) rfl ?_); (try (refine gate_guard (by rfl) ?_; dsimp only)); refine box_event ?hg (N := 2) ?hd (cs := #[.int .i64 a0_0, .int .i64 a0_1, .string a0_2]) (t := 23) ?hr ?_; (case hd => rfl); (case hg => rfl); (case hr => first | (go_simp; done) | (go_simp; rfl)); intro gb202 hg w52 hbox hb; have n0_ := Aside0.mk (below_step (by repeat (first | (with_reducible first | exact HB.out | apply below_alloc | apply pw_below_drewN | apply below_drew1) | exact HB.out)) hb); have n1_ := Aside0.mk (hbox); have n2_ := Aside0.mk ((by rw [hg]; exact (below_size (by repeat (first | (with_reducible first | exact HB.out | apply below_alloc | apply pw_below_drewN | apply below_drew1) | exact HB.out))) : w.heap.size ≤ gb202)); have n3_ := Aside0.mk ((by rw [hg]; exact (below_size (by repeat (first | (with_reducible first | exact HB.out | apply below_alloc | apply pw_below_drewN | apply below_drew1) | exact HB.out))) : w.heap.size ≤ gb202)); clear HB; have HB := n0_; have BK202 := n1_; have GW202 := n2_; have GE202 := n3_; clear n0_ n1_ n2_ n3_; clear hb hbox hg; have hcz53_0 : w52.cell? ⟨gb202, 0, none⟩ = some (.int .i64 a0_0) := (blk_cell BK202.out 0).trans rfl; have hcz53_1 : w52.cell? ⟨gb202, 1, none⟩ = some (.int .i64 a0_1) := (blk_cell BK202.out 1).trans rfl; have hcz53_2 : w52.cell? ⟨gb202, 2, none⟩ = some (.string a0_2) := (blk_cell BK202.out 2).trans rfl; have hfz53_0 := blk_frozen BK202.out 0; have hfz53_1 := blk_frozen BK202.out 1; have hfz53_2 := blk_frozen BK202.out 2) | (go_at_call 11; (with_reducible refine (page_Put.calls k a0_0 a0_1 a0_2 a1 t203 false _ ?side1 A3.out).mono ?_); (case side1 => exact Glob.below HG.out (by repeat (first | (with_reducible first | exact HB.out | apply below_alloc | apply pw_below_drewN | apply below_drew1 | refine below_set ?_ GE202.out) | exact HB.out))); rintro e w54 ⟨rfl, hb⟩; have n0_ := Aside0.mk (blk_below (g := gb202) (o := .cells #[.int .i64 a0_0, .int .i64 a0_1, .string a0_2] 23 (0, 0)) (by (with_reducible repeat (first | refine blk_drewN ?_ _ | refine blk_drew ?_ | refine blk_alloc ?_ _)); exact BK202.out) hb); have n1_ := Aside0.mk (below_step (by repeat (first | (with_reducible first | exact HB.out | apply below_alloc | apply pw_below_drewN | apply below_drew1 | refine below_set ?_ GE202.out) | exact HB.out)) hb); clear BK202; clear HB; have BK202 := n0_; have HB := n1_; clear n0_ n1_; (try clear hb); (try clear hb2); (try clear hk); (try clear hi)) | (go_at_call 10; (with_reducible refine (umbellaw07_wakes.calls k  t205 _ ?side1 A51.out).mono ?_); (case side1 => exact Glob.below HG.out (by repeat (first | (with_reducible first | exact HB.out | apply below_alloc | apply pw_below_drewN | apply below_drew1 | refine below_set ?_ GE202.out) | exact HB.out))); rintro e w55 ⟨rfl, hb⟩; have n0_ := Aside0.mk (blk_below (g := gb202) (o := .cells #[.int .i64 a0_0, .int .i64 a0_1, .string a0_2] 23 (0, 0)) (by (with_reducible repeat (first | refine blk_drewN ?_ _ | refine blk_drew ?_ | refine blk_alloc ?_ _)); exact BK202.out) hb); have n1_ := Aside0.mk (below_step (by repeat (first | (with_reducible first | exact HB.out | apply below_alloc | apply pw_below_drewN | apply below_drew1 | refine below_set ?_ GE202.out) | exact HB.out)) hb); clear BK202; clear HB; have BK202 := n0_; have HB := n1_; clear n0_ n1_; (try clear hb); (try clear hb2); (try clear hk); (try clear hi))); try go_wp2_with (first | ((with_reducible refine gate_dst (N := 2) rfl ?_); (try (refine gate_guard (by rfl) ?_; dsimp only)); refine box_event ?hg (N := 2) ?hd (cs := #[.int .i64 a0_0, .int .i64 a0_1, .string a0_2]) (t := 23) ?hr ?_; (case hd => rfl); (case hg => rfl); (case hr => first | (go_simp; done) | (go_simp; rfl)); intro gb202 hg w52 hbox hb; have n0_ := Aside0.mk (below_step (by repeat (first | (with_reducible first | exact HB.out | apply below_alloc | apply pw_below_drewN | apply below_drew1) | exact HB.out)) hb); have n1_ := Aside0.mk (hbox); have n2_ := Aside0.mk ((by rw [hg]; exact (below_size (by repeat (first | (with_reducible first | exact HB.out | apply below_alloc | apply pw_below_drewN | apply below_drew1) | exact HB.out))) : w.heap.size ≤ gb202)); have n3_ := Aside0.mk ((by rw [hg]; exact (below_size (by repeat (first | (with_reducible first | exact HB.out | apply below_alloc | apply pw_below_drewN | apply below_drew1) | exact HB.out))) : w.heap.size ≤ gb202)); clear HB; have HB := n0_; have BK202 := n1_; have GW202 := n2_; have GE202 := n3_; clear n0_ n1_ n2_ n3_; clear hb hbox hg; have hcz53_0 : w52.cell? ⟨gb202, 0, none⟩ = some (.int .i64 a0_0) := (blk_cell BK202.out 0).trans rfl; have hcz53_1 : w52.cell? ⟨gb202, 1, none⟩ = some (.int .i64 a0_1) := (blk_cell BK202.out 1).trans rfl; have hcz53_2 : w52.cell? ⟨gb202, 2, none⟩ = some (.string a0_2) := (blk_cell BK202.out 2).trans rfl; have hfz53_0 := blk_frozen BK202.out 0; have hfz53_1 := blk_frozen BK202.out 1; have hfz53_2 := blk_frozen BK202.out 2) | (go_at_call 11; (with_reducible refine (page_Put.calls k a0_0 a0_1 a0_2 a1 t203 false _ ?side1 A3.out).mono ?_); (case side1 => exact Glob.below HG.out (by repeat (first | (with_reducible first | exact HB.out | apply below_alloc | apply pw_below_drewN | apply below_drew1 | refine below_set ?_ GE202.out) | exact HB.out))); rintro e w54 ⟨rfl, hb⟩; have n0_ := Aside0.mk (blk_below (g := gb202) (o := .cells #[.int .i64 a0_0, .int .i64 a0_1, .string a0_2] 23 (0, 0)) (by (with_reducible repeat (first | refine blk_drewN ?_ _ | refine blk_drew ?_ | refine blk_alloc ?_ _)); exact BK202.out) hb); have n1_ := Aside0.mk (below_step (by repeat (first | (with_reducible first | exact HB.out | apply below_alloc | apply pw_below_drewN | apply below_drew1 | refine below_set ?_ GE202.out) | exact HB.out)) hb); clear BK202; clear HB; have BK202 := n0_; have HB := n1_; clear n0_ n1_; (try clear hb); (try clear hb2); (try clear hk); (try clear hi)) | (go_at_call 10; (with_reducible refine (umbellaw07_wakes.calls k  t205 _ ?side1 A51.out).mono ?_); (case side1 => exact Glob.below HG.out (by repeat (first | (with_reducible first | exact HB.out | apply below_alloc | apply pw_below_drewN | apply below_drew1 | refine below_set ?_ GE202.out) | exact HB.out))); rintro e w55 ⟨rfl, hb⟩; have n0_ := Aside0.mk (blk_below (g := gb202) (o := .cells #[.int .i64 a0_0, .int .i64 a0_1, .string a0_2] 23 (0, 0)) (by (with_reducible repeat (first | refine blk_drewN ?_ _ | refine blk_drew ?_ | refine blk_alloc ?_ _)); exact BK202.out) hb); have n1_ := Aside0.mk (below_step (by repeat (first | (with_reducible first | exact HB.out | apply below_alloc | apply pw_below_drewN | apply below_drew1 | refine below_set ?_ GE202.out) | exact HB.out)) hb); clear BK202; clear HB; have BK202 := n0_; have HB := n1_; clear n0_ n1_; (try clear hb); (try clear hb2); (try clear hk); (try clear hi))))
      go_ret
      exact ⟨by first | rfl | (simp [errW_none, errW_some] <;> rfl) | (simp [*, errW_none, errW_some] <;> rfl), by repeat (first | (with_reducible first | exact HB.out | apply below_alloc | apply pw_below_drewN | apply below_drew1 | refine below_set ?_ GE202.out) | exact HB.out)⟩
    · rw [if_neg c50] at H
      have c50b0 : (t203.toList == ([] : List UInt8)) = false := beq_eq_false_iff_ne.mpr c50
      have c50b1 : (t203.toList != ([] : List UInt8)) = true := bne_iff_ne.mpr c50
      obtain rfl := Option.some.inj H
      go_enter Tryd.func5, Tryd.ntmps5
      go_wp2_with (first | ((with_reducible refine gate_dst (N := 2) rfl ?_); (try (refine gate_guard (by rfl) ?_; dsimp only)); refine box_event ?hg (N := 2) ?hd (cs := #[.int .i64 a0_0, .int .i64 a0_1, .string a0_2]) (t := 23) ?hr ?_; (case hd => rfl); (case hg => rfl); (case hr => first | (go_simp; done) | (go_simp; rfl)); intro gb202 hg w56 hbox hb; have n0_ := Aside0.mk (below_step (by repeat (first | (with_reducible first | exact HB.out | apply below_alloc | apply pw_below_drewN | apply below_drew1) | exact HB.out)) hb); have n1_ := Aside0.mk (hbox); have n2_ := Aside0.mk ((by rw [hg]; exact (below_size (by repeat (first | (with_reducible first | exact HB.out | apply below_alloc | apply pw_below_drewN | apply below_drew1) | exact HB.out))) : w.heap.size ≤ gb202)); have n3_ := Aside0.mk ((by rw [hg]; exact (below_size (by repeat (first | (with_reducible first | exact HB.out | apply below_alloc | apply pw_below_drewN | apply below_drew1) | exact HB.out))) : w.heap.size ≤ gb202)); clear HB; have HB := n0_; have BK202 := n1_; have GW202 := n2_; have GE202 := n3_; clear n0_ n1_ n2_ n3_; clear hb hbox hg; have hcz57_0 : w56.cell? ⟨gb202, 0, none⟩ = some (.int .i64 a0_0) := (blk_cell BK202.out 0).trans rfl; have hcz57_1 : w56.cell? ⟨gb202, 1, none⟩ = some (.int .i64 a0_1) := (blk_cell BK202.out 1).trans rfl; have hcz57_2 : w56.cell? ⟨gb202, 2, none⟩ = some (.string a0_2) := (blk_cell BK202.out 2).trans rfl; have hfz57_0 := blk_frozen BK202.out 0; have hfz57_1 := blk_frozen BK202.out 1; have hfz57_2 := blk_frozen BK202.out 2) | (go_at_call 11; (with_reducible refine (page_Put.calls k a0_0 a0_1 a0_2 a1 t203 false _ ?side1 A3.out).mono ?_); (case side1 => exact Glob.below HG.out (by repeat (first | (with_reducible first | exact HB.out | apply below_alloc | apply pw_below_drewN | apply below_drew1 | refine below_set ?_ GE202.out) | exact HB.out))); rintro e w58 ⟨rfl, hb⟩; have n0_ := Aside0.mk (blk_below (g := gb202) (o := .cells #[.int .i64 a0_0, .int .i64 a0_1, .string a0_2] 23 (0, 0)) (by (with_reducible repeat (first | refine blk_drewN ?_ _ | refine blk_drew ?_ | refine blk_alloc ?_ _)); exact BK202.out) hb); have n1_ := Aside0.mk (below_step (by repeat (first | (with_reducible first | exact HB.out | apply below_alloc | apply pw_below_drewN | apply below_drew1 | refine below_set ?_ GE202.out) | exact HB.out)) hb); clear BK202; clear HB; have BK202 := n0_; have HB := n1_; clear n0_ n1_; (try clear hb); (try clear hb2); (try clear hk); (try clear hi)))
      repeat (go_quiet (first | ((with_reducible refine gate_dst (N := 2) rfl ?_); (try (refine gate_guard (by rfl) ?_; dsimp only)); refine box_event ?hg (N := 2) ?hd (cs := #[.int .i64 a0_0, .int .i64 a0_1, .string a0_2]) (t := 23) ?hr ?_; (case hd => rfl); (case hg => rfl); (case hr => first | (go_simp; done) | (go_simp; rfl)); intro gb202 hg w56 hbox hb; have n0_ := Aside0.mk (below_step (by repeat (first | (with_reducible first | exact HB.out | apply below_alloc | apply pw_below_drewN | apply below_drew1) | exact HB.out)) hb); have n1_ := Aside0.mk (hbox); have n2_ := Aside0.mk ((by rw [hg]; exact (below_size (by repeat (first | (with_reducible first | exact HB.out | apply below_alloc | apply pw_below_drewN | apply below_drew1) | exact HB.out))) : w.heap.size ≤ gb202)); have n3_ := Aside0.mk ((by rw [hg]; exact (below_size (by repeat (first | (with_reducible first | exact HB.out | apply below_alloc | apply pw_below_drewN | apply below_drew1) | exact HB.out))) : w.heap.size ≤ gb202)); clear HB; have HB := n0_; have BK202 := n1_; have GW202 := n2_; have GE202 := n3_; clear n0_ n1_ n2_ n3_; clear hb hbox hg; have hcz57_0 : w56.cell? ⟨gb202, 0, none⟩ = some (.int .i64 a0_0) := (blk_cell BK202.out 0).trans rfl; have hcz57_1 : w56.cell? ⟨gb202, 1, none⟩ = some (.int .i64 a0_1) := (blk_cell BK202.out 1).trans rfl; have hcz57_2 : w56.cell? ⟨gb202, 2, none⟩ = some (.string a0_2) := (blk_cell BK202.out 2).trans rfl; have hfz57_0 := blk_frozen BK202.out 0; have hfz57_1 := blk_frozen BK202.out 1; have hfz57_2 := blk_frozen BK202.out 2) | (go_at_call 11; (with_reducible refine (page_Put.calls k a0_0 a0_1 a0_2 a1 t203 false _ ?side1 A3.out).mono ?_); (case side1 => exact Glob.below HG.out (by repeat (first | (with_reducible first | exact HB.out | apply below_alloc | apply pw_below_drewN | apply below_drew1 | refine below_set ?_ GE202.out) | exact HB.out))); rintro e w58 ⟨rfl, hb⟩; have n0_ := Aside0.mk (blk_below (g := gb202) (o := .cells #[.int .i64 a0_0, .int .i64 a0_1, .string a0_2] 23 (0, 0)) (by (with_reducible repeat (first | refine blk_drewN ?_ _ | refine blk_drew ?_ | refine blk_alloc ?_ _)); exact BK202.out) hb); have n1_ := Aside0.mk (below_step (by repeat (first | (with_reducible first | exact HB.out | apply below_alloc | apply pw_below_drewN | apply below_drew1 | refine below_set ?_ GE202.out) | exact HB.out)) hb); clear BK202; clear HB; have BK202 := n0_; have HB := n1_; clear n0_ n1_; (try clear hb); (try clear hb2); (try clear hk); (try clear hi))); try go_wp2_with (first | ((with_reducible refine gate_dst (N := 2) rfl ?_); (try (refine gate_guard (by rfl) ?_; dsimp only)); refine box_event ?hg (N := 2) ?hd (cs := #[.int .i64 a0_0, .int .i64 a0_1, .string a0_2]) (t := 23) ?hr ?_; (case hd => rfl); (case hg => rfl); (case hr => first | (go_simp; done) | (go_simp; rfl)); intro gb202 hg w56 hbox hb; have n0_ := Aside0.mk (below_step (by repeat (first | (with_reducible first | exact HB.out | apply below_alloc | apply pw_below_drewN | apply below_drew1) | exact HB.out)) hb); have n1_ := Aside0.mk (hbox); have n2_ := Aside0.mk ((by rw [hg]; exact (below_size (by repeat (first | (with_reducible first | exact HB.out | apply below_alloc | apply pw_below_drewN | apply below_drew1) | exact HB.out))) : w.heap.size ≤ gb202)); have n3_ := Aside0.mk ((by rw [hg]; exact (below_size (by repeat (first | (with_reducible first | exact HB.out | apply below_alloc | apply pw_below_drewN | apply below_drew1) | exact HB.out))) : w.heap.size ≤ gb202)); clear HB; have HB := n0_; have BK202 := n1_; have GW202 := n2_; have GE202 := n3_; clear n0_ n1_ n2_ n3_; clear hb hbox hg; have hcz57_0 : w56.cell? ⟨gb202, 0, none⟩ = some (.int .i64 a0_0) := (blk_cell BK202.out 0).trans rfl; have hcz57_1 : w56.cell? ⟨gb202, 1, none⟩ = some (.int .i64 a0_1) := (blk_cell BK202.out 1).trans rfl; have hcz57_2 : w56.cell? ⟨gb202, 2, none⟩ = some (.string a0_2) := (blk_cell BK202.out 2).trans rfl; have hfz57_0 := blk_frozen BK202.out 0; have hfz57_1 := blk_frozen BK202.out 1; have hfz57_2 := blk_frozen BK202.out 2) | (go_at_call 11; (with_reducible refine (page_Put.calls k a0_0 a0_1 a0_2 a1 t203 false _ ?side1 A3.out).mono ?_); (case side1 => exact Glob.below HG.out (by repeat (first | (with_reducible first | exact HB.out | apply below_alloc | apply pw_below_drewN | apply below_drew1 | refine below_set ?_ GE202.out) | exact HB.out))); rintro e w58 ⟨rfl, hb⟩; have n0_ := Aside0.mk (blk_below (g := gb202) (o := .cells #[.int .i64 a0_0, .int .i64 a0_1, .string a0_2] 23 (0, 0)) (by (with_reducible repeat (first | refine blk_drewN ?_ _ | refine blk_drew ?_ | refine blk_alloc ?_ _)); exact BK202.out) hb); have n1_ := Aside0.mk (below_step (by repeat (first | (with_reducible first | exact HB.out | apply below_alloc | apply pw_below_drewN | apply below_drew1 | refine below_set ?_ GE202.out) | exact HB.out)) hb); clear BK202; clear HB; have BK202 := n0_; have HB := n1_; clear n0_ n1_; (try clear hb); (try clear hb2); (try clear hk); (try clear hi))))
      go_ret
      exact ⟨by first | rfl | (simp [errW_none, errW_some] <;> rfl) | (simp [*, errW_none, errW_some] <;> rfl), by repeat (first | (with_reducible first | exact HB.out | apply below_alloc | apply pw_below_drewN | apply below_drew1 | refine below_set ?_ GE202.out) | exact HB.out)⟩

end Go.Proofs.YtiajgmocmnjijaaDoor.PPag
