/-
  The reference's Good, walked by hand, each way once.
-/
import Derived.Test.YtiajgmocmnjijaaDoorSumH
import Derived.Below
import Derived.Deep.Draws
import Derived.Deep.AppendLies
import Derived.Maps.AppendAt
import Derived.OwnWalk
import Derived.Laws.BytesArg
import Derived.Laws.MakeOwn
import Derived.Laws.OwnMore
import Derived.Deep.OwnRows
import Derived.Tactics
import Derived.Lib.ConvBytes
import Derived.Laws.Slices
import Derived.WalkKit
import Derived.KernelRfl
import Derived.RowKit3
import Derived.Deep.LoopGhost
import Derived.Deep.QuietTactic
import Derived.BigQuiet
import Derived.WideLaws
import Derived.Deep.DeepCutAuto
import Derived.Deep.CutBlock
import Derived.Deep.RegionHeld3
import Derived.Laws.Rows
import Derived.Lib.AppendStr
import Derived.ArgAppend
import Derived.Laws.IdiomCopy
import Derived.OrdersHeld
import Derived.Laws.BitsLemmas
import Derived.RowKit
import Derived.Test.YtiajgmocmnjijaaDoorWWords
import Derived.Test.YtiajgmocmnjijaaDoorWLast
import Derived.Test.YtiajgmocmnjijaaDoorWTab
import Derived.Test.YtiajgmocmnjijaaDoorWFour
import Derived.Test.YtiajgmocmnjijaaDoorWQPut
import Derived.Test.YtiajgmocmnjijaaDoorWApart
import Derived.Test.YtiajgmocmnjijaaDoorWArr
import Derived.Test.YtiajgmocmnjijaaDoorWZeros
import Derived.Test.YtiajgmocmnjijaaDoorWFoot
import Derived.Test.YtiajgmocmnjijaaDoorWKept
import Derived.Test.YtiajgmocmnjijaaDoorWShare
import Derived.Test.YtiajgmocmnjijaaDoorWN
import Derived.Test.YtiajgmocmnjijaaDoorWFootNe
import Derived.Test.YtiajgmocmnjijaaDoorWAt
import Derived.Test.YtiajgmocmnjijaaDoorWEqStruct
import Derived.Test.YtiajgmocmnjijaaDoorWRepsOne
import Derived.Test.YtiajgmocmnjijaaDoorWInv
import Derived.Test.YtiajgmocmnjijaaDoorWInvWords
import Derived.Test.YtiajgmocmnjijaaDoorWGuard
import Derived.Test.YtiajgmocmnjijaaDoorWNEv
import Derived.Test.YtiajgmocmnjijaaDoorWMore
namespace Go.Proofs.YtiajgmocmnjijaaDoor.SupD
open Go.RowKit Go.Proofs.YtiajgmocmnjijaaDoorW.PrintWords Go.Proofs.YtiajgmocmnjijaaDoorW.PrintLast Go.Proofs.YtiajgmocmnjijaaDoorW.PrintMore
set_option linter.unusedVariables false
attribute [local go_sem] undef
def rg (q g l r t c : Int) : Bool := if 1 ≤ q then (if q ≤ 2147483647 then (if 1 ≤ g then (if g ≤ 2147483647 then (if 3 ≤ l then (if l ≤ 200 then (if 2 ≤ r then (if r < l then (if t = 0 then (if 1 ≤ c then decide (c ≤ 6) else false) else (if 2 ≤ t then (if t < l then (if t = r then false else (if 1 ≤ c then decide (c ≤ 6) else false)) else false) else false)) else false) else false) else false) else false) else false) else false) else false) else false
theorem rg_pos {p : Prop} [Decidable p] {a b : Bool} (h : p) : (if p then a else b) = a := if_pos h
theorem rg_neg {p : Prop} [Decidable p] {a b : Bool} (h : ¬p) : (if p then a else b) = b := if_neg h
set_option maxRecDepth 100000 in
set_option maxHeartbeats 8000000 in
theorem rgood_calls (q g l r t c : Int) (w : World) : Calls Tryd.prog 25 #[.agg #[.int .i64 q, .int .i64 g, .int .i64 l, .int .i64 r, .int .i64 t, .int .i64 c]] w fun e w' => e = .returned (.bool (rg q g l r t c)) ∧ Below w.heap.size w w' := by
  have HB := Aside0.mk (Below.refl w.heap.size w)
  have hu43 := Tryd.underlying43
  unfold rg
  by_cases d1 : 1 ≤ q
  · rw [rg_pos d1]
    have e1_0 : decide (1 ≤ q) = true := decide_eq_true d1
    clear d1
    by_cases d2 : q ≤ 2147483647
    · rw [rg_pos d2]
      have e2_0 : decide (q ≤ 2147483647) = true := decide_eq_true d2
      clear d2
      by_cases d3 : 1 ≤ g
      · rw [rg_pos d3]
        have e3_0 : decide (1 ≤ g) = true := decide_eq_true d3
        clear d3
        by_cases d4 : g ≤ 2147483647
        · rw [rg_pos d4]
          have e4_0 : decide (g ≤ 2147483647) = true := decide_eq_true d4
          clear d4
          by_cases d5 : 3 ≤ l
          · rw [rg_pos d5]
            have e5_0 : decide (3 ≤ l) = true := decide_eq_true d5
            clear d5
            by_cases d6 : l ≤ 200
            · rw [rg_pos d6]
              have e6_0 : decide (l ≤ 200) = true := decide_eq_true d6
              clear d6
              by_cases d7 : 2 ≤ r
              · rw [rg_pos d7]
                have e7_0 : decide (2 ≤ r) = true := decide_eq_true d7
                clear d7
                by_cases d8 : r < l
                · rw [rg_pos d8]
                  have e8_0 : decide (r < l) = true := decide_eq_true d8
                  clear d8
                  by_cases d9 : t = 0
                  · rw [rg_pos d9]
                    have e9_0 : (t == 0) = true := beq_iff_eq.2 d9
                    have e9_1 : (t != 0) = false := bne_eq_false_iff_eq.2 d9
                    clear d9
                    by_cases d20 : 1 ≤ c
                    · rw [rg_pos d20]
                      have e20_0 : decide (1 ≤ c) = true := decide_eq_true d20
                      clear d20
                      go_enter Tryd.func25, Tryd.ntmps25
                      go_wp2_with ((with_reducible refine gate_dst (N := 1) rfl ?_); (try (refine gate_guard (by rfl) ?_; dsimp only)); refine box_event ?hg (N := 1) ?hd (cs := #[.int .i64 q, .int .i64 g, .int .i64 l, .int .i64 r, .int .i64 t, .int .i64 c]) (t := 43) ?hr ?_; (case hd => rfl); (case hg => rfl); (case hr => first | (go_simp; done) | (go_simp; rfl)); intro g1 hg v1 hbox hb; have n0_ := Aside0.mk (by rw [hg]; exact below_size (by repeat (first | (with_reducible first | exact HB.out | apply below_alloc | apply pw_below_drewN | apply below_drew1) | exact HB.out)) : w.heap.size ≤ g1); have n1_ := Aside0.mk (below_step (by repeat (first | (with_reducible first | exact HB.out | apply below_alloc | apply pw_below_drewN | apply below_drew1) | exact HB.out)) hb); have n2_ := Aside0.mk hbox; clear HB; have GEg1 := n0_; clear n0_; have HB := n1_; clear n1_; have BKg1 := n2_; clear n2_; clear hb hbox hg; have hcz1 : v1.cell? ⟨g1, 0, none⟩ = some (.int .i64 q) := (blk_cell BKg1.out 0).trans rfl; have hfz1 := blk_frozen BKg1.out 0; have hcz2 : v1.cell? ⟨g1, 1, none⟩ = some (.int .i64 g) := (blk_cell BKg1.out 1).trans rfl; have hfz2 := blk_frozen BKg1.out 1; have hcz3 : v1.cell? ⟨g1, 2, none⟩ = some (.int .i64 l) := (blk_cell BKg1.out 2).trans rfl; have hfz3 := blk_frozen BKg1.out 2; have hcz4 : v1.cell? ⟨g1, 3, none⟩ = some (.int .i64 r) := (blk_cell BKg1.out 3).trans rfl; have hfz4 := blk_frozen BKg1.out 3; have hcz5 : v1.cell? ⟨g1, 4, none⟩ = some (.int .i64 t) := (blk_cell BKg1.out 4).trans rfl; have hfz5 := blk_frozen BKg1.out 4; have hcz6 : v1.cell? ⟨g1, 5, none⟩ = some (.int .i64 c) := (blk_cell BKg1.out 5).trans rfl; have hfz6 := blk_frozen BKg1.out 5)
                      go_ret
                      exact ⟨rfl, by repeat (first | (with_reducible first | exact HB.out | apply below_alloc | apply pw_below_drewN | apply below_drew1 | refine below_set ?_ GEg1.out) | exact HB.out)⟩
                    · rw [rg_neg d20]
                      have e20_0 : decide (1 ≤ c) = false := decide_eq_false d20
                      clear d20
                      go_enter Tryd.func25, Tryd.ntmps25
                      go_wp2_with ((with_reducible refine gate_dst (N := 1) rfl ?_); (try (refine gate_guard (by rfl) ?_; dsimp only)); refine box_event ?hg (N := 1) ?hd (cs := #[.int .i64 q, .int .i64 g, .int .i64 l, .int .i64 r, .int .i64 t, .int .i64 c]) (t := 43) ?hr ?_; (case hd => rfl); (case hg => rfl); (case hr => first | (go_simp; done) | (go_simp; rfl)); intro g1 hg v1 hbox hb; have n0_ := Aside0.mk (by rw [hg]; exact below_size (by repeat (first | (with_reducible first | exact HB.out | apply below_alloc | apply pw_below_drewN | apply below_drew1) | exact HB.out)) : w.heap.size ≤ g1); have n1_ := Aside0.mk (below_step (by repeat (first | (with_reducible first | exact HB.out | apply below_alloc | apply pw_below_drewN | apply below_drew1) | exact HB.out)) hb); have n2_ := Aside0.mk hbox; clear HB; have GEg1 := n0_; clear n0_; have HB := n1_; clear n1_; have BKg1 := n2_; clear n2_; clear hb hbox hg; have hcz1 : v1.cell? ⟨g1, 0, none⟩ = some (.int .i64 q) := (blk_cell BKg1.out 0).trans rfl; have hfz1 := blk_frozen BKg1.out 0; have hcz2 : v1.cell? ⟨g1, 1, none⟩ = some (.int .i64 g) := (blk_cell BKg1.out 1).trans rfl; have hfz2 := blk_frozen BKg1.out 1; have hcz3 : v1.cell? ⟨g1, 2, none⟩ = some (.int .i64 l) := (blk_cell BKg1.out 2).trans rfl; have hfz3 := blk_frozen BKg1.out 2; have hcz4 : v1.cell? ⟨g1, 3, none⟩ = some (.int .i64 r) := (blk_cell BKg1.out 3).trans rfl; have hfz4 := blk_frozen BKg1.out 3; have hcz5 : v1.cell? ⟨g1, 4, none⟩ = some (.int .i64 t) := (blk_cell BKg1.out 4).trans rfl; have hfz5 := blk_frozen BKg1.out 4; have hcz6 : v1.cell? ⟨g1, 5, none⟩ = some (.int .i64 c) := (blk_cell BKg1.out 5).trans rfl; have hfz6 := blk_frozen BKg1.out 5)
                      go_ret
                      exact ⟨rfl, by repeat (first | (with_reducible first | exact HB.out | apply below_alloc | apply pw_below_drewN | apply below_drew1 | refine below_set ?_ GEg1.out) | exact HB.out)⟩
                  · rw [rg_neg d9]
                    have e9_0 : (t == 0) = false := beq_eq_false_iff_ne.2 d9
                    have e9_1 : (t != 0) = true := bne_iff_ne.2 d9
                    clear d9
                    by_cases d10 : 2 ≤ t
                    · rw [rg_pos d10]
                      have e10_0 : decide (2 ≤ t) = true := decide_eq_true d10
                      clear d10
                      by_cases d11 : t < l
                      · rw [rg_pos d11]
                        have e11_0 : decide (t < l) = true := decide_eq_true d11
                        clear d11
                        by_cases d12 : t = r
                        · rw [rg_pos d12]
                          have e12_0 : (t == r) = true := beq_iff_eq.2 d12
                          have e12_1 : (t != r) = false := bne_eq_false_iff_eq.2 d12
                          clear d12
                          go_enter Tryd.func25, Tryd.ntmps25
                          go_wp2_with ((with_reducible refine gate_dst (N := 1) rfl ?_); (try (refine gate_guard (by rfl) ?_; dsimp only)); refine box_event ?hg (N := 1) ?hd (cs := #[.int .i64 q, .int .i64 g, .int .i64 l, .int .i64 r, .int .i64 t, .int .i64 c]) (t := 43) ?hr ?_; (case hd => rfl); (case hg => rfl); (case hr => first | (go_simp; done) | (go_simp; rfl)); intro g1 hg v1 hbox hb; have n0_ := Aside0.mk (by rw [hg]; exact below_size (by repeat (first | (with_reducible first | exact HB.out | apply below_alloc | apply pw_below_drewN | apply below_drew1) | exact HB.out)) : w.heap.size ≤ g1); have n1_ := Aside0.mk (below_step (by repeat (first | (with_reducible first | exact HB.out | apply below_alloc | apply pw_below_drewN | apply below_drew1) | exact HB.out)) hb); have n2_ := Aside0.mk hbox; clear HB; have GEg1 := n0_; clear n0_; have HB := n1_; clear n1_; have BKg1 := n2_; clear n2_; clear hb hbox hg; have hcz1 : v1.cell? ⟨g1, 0, none⟩ = some (.int .i64 q) := (blk_cell BKg1.out 0).trans rfl; have hfz1 := blk_frozen BKg1.out 0; have hcz2 : v1.cell? ⟨g1, 1, none⟩ = some (.int .i64 g) := (blk_cell BKg1.out 1).trans rfl; have hfz2 := blk_frozen BKg1.out 1; have hcz3 : v1.cell? ⟨g1, 2, none⟩ = some (.int .i64 l) := (blk_cell BKg1.out 2).trans rfl; have hfz3 := blk_frozen BKg1.out 2; have hcz4 : v1.cell? ⟨g1, 3, none⟩ = some (.int .i64 r) := (blk_cell BKg1.out 3).trans rfl; have hfz4 := blk_frozen BKg1.out 3; have hcz5 : v1.cell? ⟨g1, 4, none⟩ = some (.int .i64 t) := (blk_cell BKg1.out 4).trans rfl; have hfz5 := blk_frozen BKg1.out 4; have hcz6 : v1.cell? ⟨g1, 5, none⟩ = some (.int .i64 c) := (blk_cell BKg1.out 5).trans rfl; have hfz6 := blk_frozen BKg1.out 5)
                          go_ret
                          exact ⟨rfl, by repeat (first | (with_reducible first | exact HB.out | apply below_alloc | apply pw_below_drewN | apply below_drew1 | refine below_set ?_ GEg1.out) | exact HB.out)⟩
                        · rw [rg_neg d12]
                          have e12_0 : (t == r) = false := beq_eq_false_iff_ne.2 d12
                          have e12_1 : (t != r) = true := bne_iff_ne.2 d12
                          clear d12
                          by_cases d30 : 1 ≤ c
                          · rw [rg_pos d30]
                            have e30_0 : decide (1 ≤ c) = true := decide_eq_true d30
                            clear d30
                            go_enter Tryd.func25, Tryd.ntmps25
                            go_wp2_with ((with_reducible refine gate_dst (N := 1) rfl ?_); (try (refine gate_guard (by rfl) ?_; dsimp only)); refine box_event ?hg (N := 1) ?hd (cs := #[.int .i64 q, .int .i64 g, .int .i64 l, .int .i64 r, .int .i64 t, .int .i64 c]) (t := 43) ?hr ?_; (case hd => rfl); (case hg => rfl); (case hr => first | (go_simp; done) | (go_simp; rfl)); intro g1 hg v1 hbox hb; have n0_ := Aside0.mk (by rw [hg]; exact below_size (by repeat (first | (with_reducible first | exact HB.out | apply below_alloc | apply pw_below_drewN | apply below_drew1) | exact HB.out)) : w.heap.size ≤ g1); have n1_ := Aside0.mk (below_step (by repeat (first | (with_reducible first | exact HB.out | apply below_alloc | apply pw_below_drewN | apply below_drew1) | exact HB.out)) hb); have n2_ := Aside0.mk hbox; clear HB; have GEg1 := n0_; clear n0_; have HB := n1_; clear n1_; have BKg1 := n2_; clear n2_; clear hb hbox hg; have hcz1 : v1.cell? ⟨g1, 0, none⟩ = some (.int .i64 q) := (blk_cell BKg1.out 0).trans rfl; have hfz1 := blk_frozen BKg1.out 0; have hcz2 : v1.cell? ⟨g1, 1, none⟩ = some (.int .i64 g) := (blk_cell BKg1.out 1).trans rfl; have hfz2 := blk_frozen BKg1.out 1; have hcz3 : v1.cell? ⟨g1, 2, none⟩ = some (.int .i64 l) := (blk_cell BKg1.out 2).trans rfl; have hfz3 := blk_frozen BKg1.out 2; have hcz4 : v1.cell? ⟨g1, 3, none⟩ = some (.int .i64 r) := (blk_cell BKg1.out 3).trans rfl; have hfz4 := blk_frozen BKg1.out 3; have hcz5 : v1.cell? ⟨g1, 4, none⟩ = some (.int .i64 t) := (blk_cell BKg1.out 4).trans rfl; have hfz5 := blk_frozen BKg1.out 4; have hcz6 : v1.cell? ⟨g1, 5, none⟩ = some (.int .i64 c) := (blk_cell BKg1.out 5).trans rfl; have hfz6 := blk_frozen BKg1.out 5)
                            go_ret
                            exact ⟨rfl, by repeat (first | (with_reducible first | exact HB.out | apply below_alloc | apply pw_below_drewN | apply below_drew1 | refine below_set ?_ GEg1.out) | exact HB.out)⟩
                          · rw [rg_neg d30]
                            have e30_0 : decide (1 ≤ c) = false := decide_eq_false d30
                            clear d30
                            go_enter Tryd.func25, Tryd.ntmps25
                            go_wp2_with ((with_reducible refine gate_dst (N := 1) rfl ?_); (try (refine gate_guard (by rfl) ?_; dsimp only)); refine box_event ?hg (N := 1) ?hd (cs := #[.int .i64 q, .int .i64 g, .int .i64 l, .int .i64 r, .int .i64 t, .int .i64 c]) (t := 43) ?hr ?_; (case hd => rfl); (case hg => rfl); (case hr => first | (go_simp; done) | (go_simp; rfl)); intro g1 hg v1 hbox hb; have n0_ := Aside0.mk (by rw [hg]; exact below_size (by repeat (first | (with_reducible first | exact HB.out | apply below_alloc | apply pw_below_drewN | apply below_drew1) | exact HB.out)) : w.heap.size ≤ g1); have n1_ := Aside0.mk (below_step (by repeat (first | (with_reducible first | exact HB.out | apply below_alloc | apply pw_below_drewN | apply below_drew1) | exact HB.out)) hb); have n2_ := Aside0.mk hbox; clear HB; have GEg1 := n0_; clear n0_; have HB := n1_; clear n1_; have BKg1 := n2_; clear n2_; clear hb hbox hg; have hcz1 : v1.cell? ⟨g1, 0, none⟩ = some (.int .i64 q) := (blk_cell BKg1.out 0).trans rfl; have hfz1 := blk_frozen BKg1.out 0; have hcz2 : v1.cell? ⟨g1, 1, none⟩ = some (.int .i64 g) := (blk_cell BKg1.out 1).trans rfl; have hfz2 := blk_frozen BKg1.out 1; have hcz3 : v1.cell? ⟨g1, 2, none⟩ = some (.int .i64 l) := (blk_cell BKg1.out 2).trans rfl; have hfz3 := blk_frozen BKg1.out 2; have hcz4 : v1.cell? ⟨g1, 3, none⟩ = some (.int .i64 r) := (blk_cell BKg1.out 3).trans rfl; have hfz4 := blk_frozen BKg1.out 3; have hcz5 : v1.cell? ⟨g1, 4, none⟩ = some (.int .i64 t) := (blk_cell BKg1.out 4).trans rfl; have hfz5 := blk_frozen BKg1.out 4; have hcz6 : v1.cell? ⟨g1, 5, none⟩ = some (.int .i64 c) := (blk_cell BKg1.out 5).trans rfl; have hfz6 := blk_frozen BKg1.out 5)
                            go_ret
                            exact ⟨rfl, by repeat (first | (with_reducible first | exact HB.out | apply below_alloc | apply pw_below_drewN | apply below_drew1 | refine below_set ?_ GEg1.out) | exact HB.out)⟩
                      · rw [rg_neg d11]
                        have e11_0 : decide (t < l) = false := decide_eq_false d11
                        clear d11
                        go_enter Tryd.func25, Tryd.ntmps25
                        go_wp2_with ((with_reducible refine gate_dst (N := 1) rfl ?_); (try (refine gate_guard (by rfl) ?_; dsimp only)); refine box_event ?hg (N := 1) ?hd (cs := #[.int .i64 q, .int .i64 g, .int .i64 l, .int .i64 r, .int .i64 t, .int .i64 c]) (t := 43) ?hr ?_; (case hd => rfl); (case hg => rfl); (case hr => first | (go_simp; done) | (go_simp; rfl)); intro g1 hg v1 hbox hb; have n0_ := Aside0.mk (by rw [hg]; exact below_size (by repeat (first | (with_reducible first | exact HB.out | apply below_alloc | apply pw_below_drewN | apply below_drew1) | exact HB.out)) : w.heap.size ≤ g1); have n1_ := Aside0.mk (below_step (by repeat (first | (with_reducible first | exact HB.out | apply below_alloc | apply pw_below_drewN | apply below_drew1) | exact HB.out)) hb); have n2_ := Aside0.mk hbox; clear HB; have GEg1 := n0_; clear n0_; have HB := n1_; clear n1_; have BKg1 := n2_; clear n2_; clear hb hbox hg; have hcz1 : v1.cell? ⟨g1, 0, none⟩ = some (.int .i64 q) := (blk_cell BKg1.out 0).trans rfl; have hfz1 := blk_frozen BKg1.out 0; have hcz2 : v1.cell? ⟨g1, 1, none⟩ = some (.int .i64 g) := (blk_cell BKg1.out 1).trans rfl; have hfz2 := blk_frozen BKg1.out 1; have hcz3 : v1.cell? ⟨g1, 2, none⟩ = some (.int .i64 l) := (blk_cell BKg1.out 2).trans rfl; have hfz3 := blk_frozen BKg1.out 2; have hcz4 : v1.cell? ⟨g1, 3, none⟩ = some (.int .i64 r) := (blk_cell BKg1.out 3).trans rfl; have hfz4 := blk_frozen BKg1.out 3; have hcz5 : v1.cell? ⟨g1, 4, none⟩ = some (.int .i64 t) := (blk_cell BKg1.out 4).trans rfl; have hfz5 := blk_frozen BKg1.out 4; have hcz6 : v1.cell? ⟨g1, 5, none⟩ = some (.int .i64 c) := (blk_cell BKg1.out 5).trans rfl; have hfz6 := blk_frozen BKg1.out 5)
                        go_ret
                        exact ⟨rfl, by repeat (first | (with_reducible first | exact HB.out | apply below_alloc | apply pw_below_drewN | apply below_drew1 | refine below_set ?_ GEg1.out) | exact HB.out)⟩
                    · rw [rg_neg d10]
                      have e10_0 : decide (2 ≤ t) = false := decide_eq_false d10
                      clear d10
                      go_enter Tryd.func25, Tryd.ntmps25
                      go_wp2_with ((with_reducible refine gate_dst (N := 1) rfl ?_); (try (refine gate_guard (by rfl) ?_; dsimp only)); refine box_event ?hg (N := 1) ?hd (cs := #[.int .i64 q, .int .i64 g, .int .i64 l, .int .i64 r, .int .i64 t, .int .i64 c]) (t := 43) ?hr ?_; (case hd => rfl); (case hg => rfl); (case hr => first | (go_simp; done) | (go_simp; rfl)); intro g1 hg v1 hbox hb; have n0_ := Aside0.mk (by rw [hg]; exact below_size (by repeat (first | (with_reducible first | exact HB.out | apply below_alloc | apply pw_below_drewN | apply below_drew1) | exact HB.out)) : w.heap.size ≤ g1); have n1_ := Aside0.mk (below_step (by repeat (first | (with_reducible first | exact HB.out | apply below_alloc | apply pw_below_drewN | apply below_drew1) | exact HB.out)) hb); have n2_ := Aside0.mk hbox; clear HB; have GEg1 := n0_; clear n0_; have HB := n1_; clear n1_; have BKg1 := n2_; clear n2_; clear hb hbox hg; have hcz1 : v1.cell? ⟨g1, 0, none⟩ = some (.int .i64 q) := (blk_cell BKg1.out 0).trans rfl; have hfz1 := blk_frozen BKg1.out 0; have hcz2 : v1.cell? ⟨g1, 1, none⟩ = some (.int .i64 g) := (blk_cell BKg1.out 1).trans rfl; have hfz2 := blk_frozen BKg1.out 1; have hcz3 : v1.cell? ⟨g1, 2, none⟩ = some (.int .i64 l) := (blk_cell BKg1.out 2).trans rfl; have hfz3 := blk_frozen BKg1.out 2; have hcz4 : v1.cell? ⟨g1, 3, none⟩ = some (.int .i64 r) := (blk_cell BKg1.out 3).trans rfl; have hfz4 := blk_frozen BKg1.out 3; have hcz5 : v1.cell? ⟨g1, 4, none⟩ = some (.int .i64 t) := (blk_cell BKg1.out 4).trans rfl; have hfz5 := blk_frozen BKg1.out 4; have hcz6 : v1.cell? ⟨g1, 5, none⟩ = some (.int .i64 c) := (blk_cell BKg1.out 5).trans rfl; have hfz6 := blk_frozen BKg1.out 5)
                      go_ret
                      exact ⟨rfl, by repeat (first | (with_reducible first | exact HB.out | apply below_alloc | apply pw_below_drewN | apply below_drew1 | refine below_set ?_ GEg1.out) | exact HB.out)⟩
                · rw [rg_neg d8]
                  have e8_0 : decide (r < l) = false := decide_eq_false d8
                  clear d8
                  go_enter Tryd.func25, Tryd.ntmps25
                  go_wp2_with ((with_reducible refine gate_dst (N := 1) rfl ?_); (try (refine gate_guard (by rfl) ?_; dsimp only)); refine box_event ?hg (N := 1) ?hd (cs := #[.int .i64 q, .int .i64 g, .int .i64 l, .int .i64 r, .int .i64 t, .int .i64 c]) (t := 43) ?hr ?_; (case hd => rfl); (case hg => rfl); (case hr => first | (go_simp; done) | (go_simp; rfl)); intro g1 hg v1 hbox hb; have n0_ := Aside0.mk (by rw [hg]; exact below_size (by repeat (first | (with_reducible first | exact HB.out | apply below_alloc | apply pw_below_drewN | apply below_drew1) | exact HB.out)) : w.heap.size ≤ g1); have n1_ := Aside0.mk (below_step (by repeat (first | (with_reducible first | exact HB.out | apply below_alloc | apply pw_below_drewN | apply below_drew1) | exact HB.out)) hb); have n2_ := Aside0.mk hbox; clear HB; have GEg1 := n0_; clear n0_; have HB := n1_; clear n1_; have BKg1 := n2_; clear n2_; clear hb hbox hg; have hcz1 : v1.cell? ⟨g1, 0, none⟩ = some (.int .i64 q) := (blk_cell BKg1.out 0).trans rfl; have hfz1 := blk_frozen BKg1.out 0; have hcz2 : v1.cell? ⟨g1, 1, none⟩ = some (.int .i64 g) := (blk_cell BKg1.out 1).trans rfl; have hfz2 := blk_frozen BKg1.out 1; have hcz3 : v1.cell? ⟨g1, 2, none⟩ = some (.int .i64 l) := (blk_cell BKg1.out 2).trans rfl; have hfz3 := blk_frozen BKg1.out 2; have hcz4 : v1.cell? ⟨g1, 3, none⟩ = some (.int .i64 r) := (blk_cell BKg1.out 3).trans rfl; have hfz4 := blk_frozen BKg1.out 3; have hcz5 : v1.cell? ⟨g1, 4, none⟩ = some (.int .i64 t) := (blk_cell BKg1.out 4).trans rfl; have hfz5 := blk_frozen BKg1.out 4; have hcz6 : v1.cell? ⟨g1, 5, none⟩ = some (.int .i64 c) := (blk_cell BKg1.out 5).trans rfl; have hfz6 := blk_frozen BKg1.out 5)
                  go_ret
                  exact ⟨rfl, by repeat (first | (with_reducible first | exact HB.out | apply below_alloc | apply pw_below_drewN | apply below_drew1 | refine below_set ?_ GEg1.out) | exact HB.out)⟩
              · rw [rg_neg d7]
                have e7_0 : decide (2 ≤ r) = false := decide_eq_false d7
                clear d7
                go_enter Tryd.func25, Tryd.ntmps25
                go_wp2_with ((with_reducible refine gate_dst (N := 1) rfl ?_); (try (refine gate_guard (by rfl) ?_; dsimp only)); refine box_event ?hg (N := 1) ?hd (cs := #[.int .i64 q, .int .i64 g, .int .i64 l, .int .i64 r, .int .i64 t, .int .i64 c]) (t := 43) ?hr ?_; (case hd => rfl); (case hg => rfl); (case hr => first | (go_simp; done) | (go_simp; rfl)); intro g1 hg v1 hbox hb; have n0_ := Aside0.mk (by rw [hg]; exact below_size (by repeat (first | (with_reducible first | exact HB.out | apply below_alloc | apply pw_below_drewN | apply below_drew1) | exact HB.out)) : w.heap.size ≤ g1); have n1_ := Aside0.mk (below_step (by repeat (first | (with_reducible first | exact HB.out | apply below_alloc | apply pw_below_drewN | apply below_drew1) | exact HB.out)) hb); have n2_ := Aside0.mk hbox; clear HB; have GEg1 := n0_; clear n0_; have HB := n1_; clear n1_; have BKg1 := n2_; clear n2_; clear hb hbox hg; have hcz1 : v1.cell? ⟨g1, 0, none⟩ = some (.int .i64 q) := (blk_cell BKg1.out 0).trans rfl; have hfz1 := blk_frozen BKg1.out 0; have hcz2 : v1.cell? ⟨g1, 1, none⟩ = some (.int .i64 g) := (blk_cell BKg1.out 1).trans rfl; have hfz2 := blk_frozen BKg1.out 1; have hcz3 : v1.cell? ⟨g1, 2, none⟩ = some (.int .i64 l) := (blk_cell BKg1.out 2).trans rfl; have hfz3 := blk_frozen BKg1.out 2; have hcz4 : v1.cell? ⟨g1, 3, none⟩ = some (.int .i64 r) := (blk_cell BKg1.out 3).trans rfl; have hfz4 := blk_frozen BKg1.out 3; have hcz5 : v1.cell? ⟨g1, 4, none⟩ = some (.int .i64 t) := (blk_cell BKg1.out 4).trans rfl; have hfz5 := blk_frozen BKg1.out 4; have hcz6 : v1.cell? ⟨g1, 5, none⟩ = some (.int .i64 c) := (blk_cell BKg1.out 5).trans rfl; have hfz6 := blk_frozen BKg1.out 5)
                go_ret
                exact ⟨rfl, by repeat (first | (with_reducible first | exact HB.out | apply below_alloc | apply pw_below_drewN | apply below_drew1 | refine below_set ?_ GEg1.out) | exact HB.out)⟩
            · rw [rg_neg d6]
              have e6_0 : decide (l ≤ 200) = false := decide_eq_false d6
              clear d6
              go_enter Tryd.func25, Tryd.ntmps25
              go_wp2_with ((with_reducible refine gate_dst (N := 1) rfl ?_); (try (refine gate_guard (by rfl) ?_; dsimp only)); refine box_event ?hg (N := 1) ?hd (cs := #[.int .i64 q, .int .i64 g, .int .i64 l, .int .i64 r, .int .i64 t, .int .i64 c]) (t := 43) ?hr ?_; (case hd => rfl); (case hg => rfl); (case hr => first | (go_simp; done) | (go_simp; rfl)); intro g1 hg v1 hbox hb; have n0_ := Aside0.mk (by rw [hg]; exact below_size (by repeat (first | (with_reducible first | exact HB.out | apply below_alloc | apply pw_below_drewN | apply below_drew1) | exact HB.out)) : w.heap.size ≤ g1); have n1_ := Aside0.mk (below_step (by repeat (first | (with_reducible first | exact HB.out | apply below_alloc | apply pw_below_drewN | apply below_drew1) | exact HB.out)) hb); have n2_ := Aside0.mk hbox; clear HB; have GEg1 := n0_; clear n0_; have HB := n1_; clear n1_; have BKg1 := n2_; clear n2_; clear hb hbox hg; have hcz1 : v1.cell? ⟨g1, 0, none⟩ = some (.int .i64 q) := (blk_cell BKg1.out 0).trans rfl; have hfz1 := blk_frozen BKg1.out 0; have hcz2 : v1.cell? ⟨g1, 1, none⟩ = some (.int .i64 g) := (blk_cell BKg1.out 1).trans rfl; have hfz2 := blk_frozen BKg1.out 1; have hcz3 : v1.cell? ⟨g1, 2, none⟩ = some (.int .i64 l) := (blk_cell BKg1.out 2).trans rfl; have hfz3 := blk_frozen BKg1.out 2; have hcz4 : v1.cell? ⟨g1, 3, none⟩ = some (.int .i64 r) := (blk_cell BKg1.out 3).trans rfl; have hfz4 := blk_frozen BKg1.out 3; have hcz5 : v1.cell? ⟨g1, 4, none⟩ = some (.int .i64 t) := (blk_cell BKg1.out 4).trans rfl; have hfz5 := blk_frozen BKg1.out 4; have hcz6 : v1.cell? ⟨g1, 5, none⟩ = some (.int .i64 c) := (blk_cell BKg1.out 5).trans rfl; have hfz6 := blk_frozen BKg1.out 5)
              go_ret
              exact ⟨rfl, by repeat (first | (with_reducible first | exact HB.out | apply below_alloc | apply pw_below_drewN | apply below_drew1 | refine below_set ?_ GEg1.out) | exact HB.out)⟩
          · rw [rg_neg d5]
            have e5_0 : decide (3 ≤ l) = false := decide_eq_false d5
            clear d5
            go_enter Tryd.func25, Tryd.ntmps25
            go_wp2_with ((with_reducible refine gate_dst (N := 1) rfl ?_); (try (refine gate_guard (by rfl) ?_; dsimp only)); refine box_event ?hg (N := 1) ?hd (cs := #[.int .i64 q, .int .i64 g, .int .i64 l, .int .i64 r, .int .i64 t, .int .i64 c]) (t := 43) ?hr ?_; (case hd => rfl); (case hg => rfl); (case hr => first | (go_simp; done) | (go_simp; rfl)); intro g1 hg v1 hbox hb; have n0_ := Aside0.mk (by rw [hg]; exact below_size (by repeat (first | (with_reducible first | exact HB.out | apply below_alloc | apply pw_below_drewN | apply below_drew1) | exact HB.out)) : w.heap.size ≤ g1); have n1_ := Aside0.mk (below_step (by repeat (first | (with_reducible first | exact HB.out | apply below_alloc | apply pw_below_drewN | apply below_drew1) | exact HB.out)) hb); have n2_ := Aside0.mk hbox; clear HB; have GEg1 := n0_; clear n0_; have HB := n1_; clear n1_; have BKg1 := n2_; clear n2_; clear hb hbox hg; have hcz1 : v1.cell? ⟨g1, 0, none⟩ = some (.int .i64 q) := (blk_cell BKg1.out 0).trans rfl; have hfz1 := blk_frozen BKg1.out 0; have hcz2 : v1.cell? ⟨g1, 1, none⟩ = some (.int .i64 g) := (blk_cell BKg1.out 1).trans rfl; have hfz2 := blk_frozen BKg1.out 1; have hcz3 : v1.cell? ⟨g1, 2, none⟩ = some (.int .i64 l) := (blk_cell BKg1.out 2).trans rfl; have hfz3 := blk_frozen BKg1.out 2; have hcz4 : v1.cell? ⟨g1, 3, none⟩ = some (.int .i64 r) := (blk_cell BKg1.out 3).trans rfl; have hfz4 := blk_frozen BKg1.out 3; have hcz5 : v1.cell? ⟨g1, 4, none⟩ = some (.int .i64 t) := (blk_cell BKg1.out 4).trans rfl; have hfz5 := blk_frozen BKg1.out 4; have hcz6 : v1.cell? ⟨g1, 5, none⟩ = some (.int .i64 c) := (blk_cell BKg1.out 5).trans rfl; have hfz6 := blk_frozen BKg1.out 5)
            go_ret
            exact ⟨rfl, by repeat (first | (with_reducible first | exact HB.out | apply below_alloc | apply pw_below_drewN | apply below_drew1 | refine below_set ?_ GEg1.out) | exact HB.out)⟩
        · rw [rg_neg d4]
          have e4_0 : decide (g ≤ 2147483647) = false := decide_eq_false d4
          clear d4
          go_enter Tryd.func25, Tryd.ntmps25
          go_wp2_with ((with_reducible refine gate_dst (N := 1) rfl ?_); (try (refine gate_guard (by rfl) ?_; dsimp only)); refine box_event ?hg (N := 1) ?hd (cs := #[.int .i64 q, .int .i64 g, .int .i64 l, .int .i64 r, .int .i64 t, .int .i64 c]) (t := 43) ?hr ?_; (case hd => rfl); (case hg => rfl); (case hr => first | (go_simp; done) | (go_simp; rfl)); intro g1 hg v1 hbox hb; have n0_ := Aside0.mk (by rw [hg]; exact below_size (by repeat (first | (with_reducible first | exact HB.out | apply below_alloc | apply pw_below_drewN | apply below_drew1) | exact HB.out)) : w.heap.size ≤ g1); have n1_ := Aside0.mk (below_step (by repeat (first | (with_reducible first | exact HB.out | apply below_alloc | apply pw_below_drewN | apply below_drew1) | exact HB.out)) hb); have n2_ := Aside0.mk hbox; clear HB; have GEg1 := n0_; clear n0_; have HB := n1_; clear n1_; have BKg1 := n2_; clear n2_; clear hb hbox hg; have hcz1 : v1.cell? ⟨g1, 0, none⟩ = some (.int .i64 q) := (blk_cell BKg1.out 0).trans rfl; have hfz1 := blk_frozen BKg1.out 0; have hcz2 : v1.cell? ⟨g1, 1, none⟩ = some (.int .i64 g) := (blk_cell BKg1.out 1).trans rfl; have hfz2 := blk_frozen BKg1.out 1; have hcz3 : v1.cell? ⟨g1, 2, none⟩ = some (.int .i64 l) := (blk_cell BKg1.out 2).trans rfl; have hfz3 := blk_frozen BKg1.out 2; have hcz4 : v1.cell? ⟨g1, 3, none⟩ = some (.int .i64 r) := (blk_cell BKg1.out 3).trans rfl; have hfz4 := blk_frozen BKg1.out 3; have hcz5 : v1.cell? ⟨g1, 4, none⟩ = some (.int .i64 t) := (blk_cell BKg1.out 4).trans rfl; have hfz5 := blk_frozen BKg1.out 4; have hcz6 : v1.cell? ⟨g1, 5, none⟩ = some (.int .i64 c) := (blk_cell BKg1.out 5).trans rfl; have hfz6 := blk_frozen BKg1.out 5)
          go_ret
          exact ⟨rfl, by repeat (first | (with_reducible first | exact HB.out | apply below_alloc | apply pw_below_drewN | apply below_drew1 | refine below_set ?_ GEg1.out) | exact HB.out)⟩
      · rw [rg_neg d3]
        have e3_0 : decide (1 ≤ g) = false := decide_eq_false d3
        clear d3
        go_enter Tryd.func25, Tryd.ntmps25
        go_wp2_with ((with_reducible refine gate_dst (N := 1) rfl ?_); (try (refine gate_guard (by rfl) ?_; dsimp only)); refine box_event ?hg (N := 1) ?hd (cs := #[.int .i64 q, .int .i64 g, .int .i64 l, .int .i64 r, .int .i64 t, .int .i64 c]) (t := 43) ?hr ?_; (case hd => rfl); (case hg => rfl); (case hr => first | (go_simp; done) | (go_simp; rfl)); intro g1 hg v1 hbox hb; have n0_ := Aside0.mk (by rw [hg]; exact below_size (by repeat (first | (with_reducible first | exact HB.out | apply below_alloc | apply pw_below_drewN | apply below_drew1) | exact HB.out)) : w.heap.size ≤ g1); have n1_ := Aside0.mk (below_step (by repeat (first | (with_reducible first | exact HB.out | apply below_alloc | apply pw_below_drewN | apply below_drew1) | exact HB.out)) hb); have n2_ := Aside0.mk hbox; clear HB; have GEg1 := n0_; clear n0_; have HB := n1_; clear n1_; have BKg1 := n2_; clear n2_; clear hb hbox hg; have hcz1 : v1.cell? ⟨g1, 0, none⟩ = some (.int .i64 q) := (blk_cell BKg1.out 0).trans rfl; have hfz1 := blk_frozen BKg1.out 0; have hcz2 : v1.cell? ⟨g1, 1, none⟩ = some (.int .i64 g) := (blk_cell BKg1.out 1).trans rfl; have hfz2 := blk_frozen BKg1.out 1; have hcz3 : v1.cell? ⟨g1, 2, none⟩ = some (.int .i64 l) := (blk_cell BKg1.out 2).trans rfl; have hfz3 := blk_frozen BKg1.out 2; have hcz4 : v1.cell? ⟨g1, 3, none⟩ = some (.int .i64 r) := (blk_cell BKg1.out 3).trans rfl; have hfz4 := blk_frozen BKg1.out 3; have hcz5 : v1.cell? ⟨g1, 4, none⟩ = some (.int .i64 t) := (blk_cell BKg1.out 4).trans rfl; have hfz5 := blk_frozen BKg1.out 4; have hcz6 : v1.cell? ⟨g1, 5, none⟩ = some (.int .i64 c) := (blk_cell BKg1.out 5).trans rfl; have hfz6 := blk_frozen BKg1.out 5)
        go_ret
        exact ⟨rfl, by repeat (first | (with_reducible first | exact HB.out | apply below_alloc | apply pw_below_drewN | apply below_drew1 | refine below_set ?_ GEg1.out) | exact HB.out)⟩
    · rw [rg_neg d2]
      have e2_0 : decide (q ≤ 2147483647) = false := decide_eq_false d2
      clear d2
      go_enter Tryd.func25, Tryd.ntmps25
      go_wp2_with ((with_reducible refine gate_dst (N := 1) rfl ?_); (try (refine gate_guard (by rfl) ?_; dsimp only)); refine box_event ?hg (N := 1) ?hd (cs := #[.int .i64 q, .int .i64 g, .int .i64 l, .int .i64 r, .int .i64 t, .int .i64 c]) (t := 43) ?hr ?_; (case hd => rfl); (case hg => rfl); (case hr => first | (go_simp; done) | (go_simp; rfl)); intro g1 hg v1 hbox hb; have n0_ := Aside0.mk (by rw [hg]; exact below_size (by repeat (first | (with_reducible first | exact HB.out | apply below_alloc | apply pw_below_drewN | apply below_drew1) | exact HB.out)) : w.heap.size ≤ g1); have n1_ := Aside0.mk (below_step (by repeat (first | (with_reducible first | exact HB.out | apply below_alloc | apply pw_below_drewN | apply below_drew1) | exact HB.out)) hb); have n2_ := Aside0.mk hbox; clear HB; have GEg1 := n0_; clear n0_; have HB := n1_; clear n1_; have BKg1 := n2_; clear n2_; clear hb hbox hg; have hcz1 : v1.cell? ⟨g1, 0, none⟩ = some (.int .i64 q) := (blk_cell BKg1.out 0).trans rfl; have hfz1 := blk_frozen BKg1.out 0; have hcz2 : v1.cell? ⟨g1, 1, none⟩ = some (.int .i64 g) := (blk_cell BKg1.out 1).trans rfl; have hfz2 := blk_frozen BKg1.out 1; have hcz3 : v1.cell? ⟨g1, 2, none⟩ = some (.int .i64 l) := (blk_cell BKg1.out 2).trans rfl; have hfz3 := blk_frozen BKg1.out 2; have hcz4 : v1.cell? ⟨g1, 3, none⟩ = some (.int .i64 r) := (blk_cell BKg1.out 3).trans rfl; have hfz4 := blk_frozen BKg1.out 3; have hcz5 : v1.cell? ⟨g1, 4, none⟩ = some (.int .i64 t) := (blk_cell BKg1.out 4).trans rfl; have hfz5 := blk_frozen BKg1.out 4; have hcz6 : v1.cell? ⟨g1, 5, none⟩ = some (.int .i64 c) := (blk_cell BKg1.out 5).trans rfl; have hfz6 := blk_frozen BKg1.out 5)
      go_ret
      exact ⟨rfl, by repeat (first | (with_reducible first | exact HB.out | apply below_alloc | apply pw_below_drewN | apply below_drew1 | refine below_set ?_ GEg1.out) | exact HB.out)⟩
  · rw [rg_neg d1]
    have e1_0 : decide (1 ≤ q) = false := decide_eq_false d1
    clear d1
    go_enter Tryd.func25, Tryd.ntmps25
    go_wp2_with ((with_reducible refine gate_dst (N := 1) rfl ?_); (try (refine gate_guard (by rfl) ?_; dsimp only)); refine box_event ?hg (N := 1) ?hd (cs := #[.int .i64 q, .int .i64 g, .int .i64 l, .int .i64 r, .int .i64 t, .int .i64 c]) (t := 43) ?hr ?_; (case hd => rfl); (case hg => rfl); (case hr => first | (go_simp; done) | (go_simp; rfl)); intro g1 hg v1 hbox hb; have n0_ := Aside0.mk (by rw [hg]; exact below_size (by repeat (first | (with_reducible first | exact HB.out | apply below_alloc | apply pw_below_drewN | apply below_drew1) | exact HB.out)) : w.heap.size ≤ g1); have n1_ := Aside0.mk (below_step (by repeat (first | (with_reducible first | exact HB.out | apply below_alloc | apply pw_below_drewN | apply below_drew1) | exact HB.out)) hb); have n2_ := Aside0.mk hbox; clear HB; have GEg1 := n0_; clear n0_; have HB := n1_; clear n1_; have BKg1 := n2_; clear n2_; clear hb hbox hg; have hcz1 : v1.cell? ⟨g1, 0, none⟩ = some (.int .i64 q) := (blk_cell BKg1.out 0).trans rfl; have hfz1 := blk_frozen BKg1.out 0; have hcz2 : v1.cell? ⟨g1, 1, none⟩ = some (.int .i64 g) := (blk_cell BKg1.out 1).trans rfl; have hfz2 := blk_frozen BKg1.out 1; have hcz3 : v1.cell? ⟨g1, 2, none⟩ = some (.int .i64 l) := (blk_cell BKg1.out 2).trans rfl; have hfz3 := blk_frozen BKg1.out 2; have hcz4 : v1.cell? ⟨g1, 3, none⟩ = some (.int .i64 r) := (blk_cell BKg1.out 3).trans rfl; have hfz4 := blk_frozen BKg1.out 3; have hcz5 : v1.cell? ⟨g1, 4, none⟩ = some (.int .i64 t) := (blk_cell BKg1.out 4).trans rfl; have hfz5 := blk_frozen BKg1.out 4; have hcz6 : v1.cell? ⟨g1, 5, none⟩ = some (.int .i64 c) := (blk_cell BKg1.out 5).trans rfl; have hfz6 := blk_frozen BKg1.out 5)
    go_ret
    exact ⟨rfl, by repeat (first | (with_reducible first | exact HB.out | apply below_alloc | apply pw_below_drewN | apply below_drew1 | refine below_set ?_ GEg1.out) | exact HB.out)⟩
end Go.Proofs.YtiajgmocmnjijaaDoor.SupD
