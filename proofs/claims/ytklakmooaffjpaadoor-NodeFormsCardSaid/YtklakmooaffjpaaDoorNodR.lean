/-
 node.read, walked by hand over the reader's contracts.
-/
import Derived.Test.YtklakmooaffjpaaDoorCalm
import Derived.Test.YtklakmooaffjpaaDoorNodH
import Derived.Deep.CutBlock
namespace Go.Proofs.YtklakmooaffjpaaDoor.NodR
open Go.RowKit Go.Proofs.YtklakmooaffjpaaDoorW.PrintWords Go.Proofs.YtklakmooaffjpaaDoorW.PrintLast Go.Proofs.YtklakmooaffjpaaDoorW.PrintMore Go.Proofs.YtklakmooaffjpaaDoor.PNor
set_option linter.unusedVariables false
theorem is74 {w0 W : World} {g : Nat} {s : ByteArray} (h : W.heap[g]? = some (.cells #[.string s] 74 (0, 0))) (hg : w0.heap.size ≤ g) : IsS74 w0 W g s := ⟨h, hg⟩
theorem R_one {w : World} {B : Nat} {v : Value} {l : List ByteArray} {g : Nat} (h : Kd.R Kd.string 9 w B (fun _ => True) v l) (hg : g < B) (j : Nat) (u : Value) : Kd.R Kd.string 9 (w.setCell ⟨g, j, none⟩ u) B (fun _ => True) v l :=
 Kd.R_mono (Kd.R_far (Kd.R_bound h) (fun k hk e => Nat.lt_irrefl _ (Nat.lt_of_lt_of_le hg (by rw [← show k = g from e]; exact hk.2.1))) u) (fun _ _ => trivial)
theorem R_six {w : World} {B : Nat} {v : Value} {l : List ByteArray} {g : Nat} (h : Kd.R Kd.string 9 w B (fun _ => True) v l) (hg : g < B) (a b c d e f : Value) :
  Kd.R Kd.string 9 ((((((w.setCell ⟨g, 0, none⟩ a).setCell ⟨g, 1, none⟩ b).setCell ⟨g, 2, none⟩ c).setCell ⟨g, 3, none⟩ d).setCell ⟨g, 4, none⟩ e).setCell ⟨g, 5, none⟩ f) B (fun _ => True) v l :=
 R_one (R_one (R_one (R_one (R_one (R_one h hg 0 a) hg 1 b) hg 2 c) hg 3 d) hg 4 e) hg 5 f
/-- What a text may say: kind, path, has, value, mask, hashes. -/
def read_f (k : Nat) (s : ByteArray) : Option (Int × ByteArray × Bool × ByteArray × Int × List ByteArray) :=
 (n9number.f s).bind fun a => if a.1 = 1 then (n9path.f k a.2).bind fun b => (n9number.f b.2).bind fun c => (n9take.f c.2 c.1).bind fun d => (n9rest.f k d.2).bind fun e => some (a.1, b.1, true, d.1, 0, e.1)
  else if a.1 = 2 then (n9path.f k a.2).bind fun b => (n9rest.f k b.2).bind fun e => some (a.1, b.1, false, ⟨#[]⟩, 1, e.1)
  else if a.1 = 3 then (n9number.f a.2).bind fun b => (n9number.f b.2).bind fun c => (n9number.f c.2).bind fun d => if d.1 = 1 then (n9number.f d.2).bind fun m => (n9take.f m.2 m.1).bind fun v => (n9rest.f k v.2).bind fun e => some (a.1, ⟨#[]⟩, true, v.1, Go.bits .or .i64 (wrap64 (b.1 * 256)) c.1, e.1)
   else (n9rest.f k d.2).bind fun e => some (a.1, ⟨#[]⟩, false, ⟨#[]⟩, Go.bits .or .i64 (wrap64 (b.1 * 256)) c.1, e.1)
  else (n9rest.f k a.2).bind fun e => some (a.1, ⟨#[]⟩, false, ⟨#[]⟩, 0, e.1)
set_option maxRecDepth 100000 in
set_option maxHeartbeats 16000000 in
theorem read_calls (k : Nat) (s : ByteArray) (r1 : Int) (r2 : ByteArray) (r3 : Bool) (r4 : ByteArray) (r5 : Int) (r6 : List ByteArray) (w : World) (h : read_f k s = some (r1, r2, r3, r4, r5, r6)) :
  Calls Tryd.prog 24 #[.string s] w fun e w' => ∃ v5_ : Value, e = .returned (.agg #[.int .i64 r1, .string r2, .bool r3, .string r4, .int .i64 r5, v5_]) ∧ Kd.R Kd.string 9 w' w.heap.size (fun _ => True) v5_ r6 ∧ Below w.heap.size w w' := by
 have HB := A0_.mk (Below.refl w.heap.size w)
 have hu24 := Tryd.underlying24
 have hu74 := Tryd.underlying74
 unfold read_f at h
 obtain ⟨⟨kd, s1⟩, h1, h⟩ := Option.bind_eq_some_iff.1 h
 dsimp only at h
 have H1 := Lib.hid h1; clear h1
 go_enter Tryd.func24, Tryd.ntmps24
 go_wp2_with (first | ((with_reducible refine gD (N := 2) rfl ?_); (try (refine gG (by rfl) ?_; dsimp only)); refine xE ?hg (N := 2) ?hd (cs := #[.int .i64 0, .string (⟨#[]⟩ : ByteArray), .bool false, .string (⟨#[]⟩ : ByteArray), .int .i64 0, .slice none 0 0]) (t := 24) ?hr ?_; (case hd => rfl); (case hg => rfl); (case hr => first | (go_simp; done) | (go_simp; rfl)); intro gR hg v1 hbox hb; have n0_ := A0_.mk (by rw [hg]; exact wZ (by repeat (first | (with_reducible first | exact HB.out | apply wA | apply pN | apply wD) | exact HB.out)) : w.heap.size ≤ gR); have n1_ := A0_.mk (wT (by repeat (first | (with_reducible first | exact HB.out | apply wA | apply pN | apply wD) | exact HB.out)) hb); have n2_ := A0_.mk hbox; clear HB; have GEgR := n0_; clear n0_; have HB := n1_; clear n1_; have BKgR := n2_; clear n2_; clear hb hbox hg) | ((with_reducible refine gD (N := 7) rfl ?_); (try (refine gG (by rfl) ?_; dsimp only)); refine xE ?hg (N := 7) ?hd (cs := #[.string s]) (t := 74) ?hr ?_; (case hd => rfl); (case hg => rfl); (case hr => first | (go_simp; done) | (go_simp; rfl)); intro gr hg v2 hbox hb; have n0_ := A0_.mk (by rw [hg]; exact Nat.ne_of_lt (bL (g := gR) (o := .cells #[.int .i64 0, .string (⟨#[]⟩ : ByteArray), .bool false, .string (⟨#[]⟩ : ByteArray), .int .i64 0, .slice none 0 0] 24 (0, 0)) (by (with_reducible repeat (first | refine bN ?_ _ | refine bD ?_ | refine bA ?_ _)); exact BKgR.out)) : gR ≠ gr); have n1_ := A0_.mk (by rw [hg]; exact Nat.ne_of_gt (bL (g := gR) (o := .cells #[.int .i64 0, .string (⟨#[]⟩ : ByteArray), .bool false, .string (⟨#[]⟩ : ByteArray), .int .i64 0, .slice none 0 0] 24 (0, 0)) (by (with_reducible repeat (first | refine bN ?_ _ | refine bD ?_ | refine bA ?_ _)); exact BKgR.out)) : gr ≠ gR); have n2_ := A0_.mk (by rw [hg]; exact wZ (by repeat (first | (with_reducible first | exact HB.out | apply wA | apply pN | apply wD | refine wS ?_ GEgR.out) | exact HB.out)) : w.heap.size ≤ gr); have n3_ := A0_.mk (bB (g := gR) (o := .cells #[.int .i64 0, .string (⟨#[]⟩ : ByteArray), .bool false, .string (⟨#[]⟩ : ByteArray), .int .i64 0, .slice none 0 0] 24 (0, 0)) (by (with_reducible repeat (first | refine bN ?_ _ | refine bD ?_ | refine bA ?_ _)); exact BKgR.out) hb); have n4_ := A0_.mk (wT (by repeat (first | (with_reducible first | exact HB.out | apply wA | apply pN | apply wD | refine wS ?_ GEgR.out) | exact HB.out)) hb); have n5_ := A0_.mk hbox; clear BKgR; clear HB; have NBgR_gr := n0_; clear n0_; have NBgr_gR := n1_; clear n1_; have GEgr := n2_; clear n2_; have BKgR := n3_; clear n3_; have HB := n4_; clear n4_; have BKgr := n5_; clear n5_; clear hb hbox hg))
 with_reducible refine (PNor.n9number.calls gr s kd s1 w _ (is74 (by (with_reducible repeat (first | refine bN ?_ _ | refine bD ?_ | refine bA ?_ _)); exact BKgr.out) GEgr.out) (by repeat (first | (with_reducible first | exact HB.out | apply wA | apply pN | apply wD | refine wS ?_ GEgR.out | refine wS ?_ GEgr.out) | exact HB.out)) H1.out).mono ?_
 rintro e v3 ⟨rfl, hi_, hb2_, hk_⟩
 have n0_ := A0_.mk ((hk_.2 gR (bL (g := gR) (o := .cells #[.int .i64 0, .string (⟨#[]⟩ : ByteArray), .bool false, .string (⟨#[]⟩ : ByteArray), .int .i64 0, .slice none 0 0] 24 (0, 0)) (by (with_reducible repeat (first | refine bN ?_ _ | refine bD ?_ | refine bA ?_ _)); exact BKgR.out)) NBgR_gr.out (by simp)).trans (by (with_reducible repeat (first | refine bN ?_ _ | refine bD ?_ | refine bA ?_ _)); exact BKgR.out))
 have n1_ := A0_.mk hi_.1
 have n2_ := A0_.mk hb2_
 clear BKgR
 clear BKgr
 clear HB
 have BKgR := n0_; clear n0_
 have BKgr := n1_; clear n1_
 have HB := n2_; clear n2_
 clear hi_ hb2_ hk_
 go_upto_block 0 with (first | ((with_reducible refine gD (N := 4) rfl ?_); (try (refine gG (by rfl) ?_; dsimp only)); refine xE ?hg (N := 4) ?hd (cs := #[.int .i64 0, .string (⟨#[]⟩ : ByteArray), .bool false, .string (⟨#[]⟩ : ByteArray), .int .i64 0, .slice none 0 0]) (t := 24) ?hr ?_; (case hd => rfl); (case hg => rfl); (case hr => first | (go_simp; done) | (go_simp; rfl)); intro gi hg v4 hbox hb; have n0_ := A0_.mk (by rw [hg]; exact Nat.ne_of_lt (bL (g := gR) (o := .cells #[.int .i64 0, .string (⟨#[]⟩ : ByteArray), .bool false, .string (⟨#[]⟩ : ByteArray), .int .i64 0, .slice none 0 0] 24 (0, 0)) (by (with_reducible repeat (first | refine bN ?_ _ | refine bD ?_ | refine bA ?_ _)); exact BKgR.out)) : gR ≠ gi); have n1_ := A0_.mk (by rw [hg]; exact Nat.ne_of_gt (bL (g := gR) (o := .cells #[.int .i64 0, .string (⟨#[]⟩ : ByteArray), .bool false, .string (⟨#[]⟩ : ByteArray), .int .i64 0, .slice none 0 0] 24 (0, 0)) (by (with_reducible repeat (first | refine bN ?_ _ | refine bD ?_ | refine bA ?_ _)); exact BKgR.out)) : gi ≠ gR); have n2_ := A0_.mk (by rw [hg]; exact Nat.ne_of_lt (bL (g := gr) (o := .cells #[.string s1] 74 (0, 0)) (by (with_reducible repeat (first | refine bN ?_ _ | refine bD ?_ | refine bA ?_ _)); exact BKgr.out)) : gr ≠ gi); have n3_ := A0_.mk (by rw [hg]; exact Nat.ne_of_gt (bL (g := gr) (o := .cells #[.string s1] 74 (0, 0)) (by (with_reducible repeat (first | refine bN ?_ _ | refine bD ?_ | refine bA ?_ _)); exact BKgr.out)) : gi ≠ gr); have n4_ := A0_.mk (by rw [hg]; exact wZ (by repeat (first | (with_reducible first | exact HB.out | apply wA | apply pN | apply wD | refine wS ?_ GEgR.out | refine wS ?_ GEgr.out) | exact HB.out)) : w.heap.size ≤ gi); have n5_ := A0_.mk (bB (g := gR) (o := .cells #[.int .i64 0, .string (⟨#[]⟩ : ByteArray), .bool false, .string (⟨#[]⟩ : ByteArray), .int .i64 0, .slice none 0 0] 24 (0, 0)) (by (with_reducible repeat (first | refine bN ?_ _ | refine bD ?_ | refine bA ?_ _)); exact BKgR.out) hb); have n6_ := A0_.mk (bB (g := gr) (o := .cells #[.string s1] 74 (0, 0)) (by (with_reducible repeat (first | refine bN ?_ _ | refine bD ?_ | refine bA ?_ _)); exact BKgr.out) hb); have n7_ := A0_.mk (wT (by repeat (first | (with_reducible first | exact HB.out | apply wA | apply pN | apply wD | refine wS ?_ GEgR.out | refine wS ?_ GEgr.out) | exact HB.out)) hb); have n8_ := A0_.mk hbox; clear BKgR; clear BKgr; clear HB; have NBgR_gi := n0_; clear n0_; have NBgi_gR := n1_; clear n1_; have NBgr_gi := n2_; clear n2_; have NBgi_gr := n3_; clear n3_; have GEgi := n4_; clear n4_; have BKgR := n5_; clear n5_; have BKgr := n6_; clear n6_; have HB := n7_; clear n7_; have BKgi := n8_; clear n8_; clear hb hbox hg; have hcz1 : v4.cell? ⟨gi, 0, none⟩ = some (.int .i64 0) := (bC BKgi.out 0).trans rfl; have hfz1 := bF BKgi.out 0; have hcz2 : v4.cell? ⟨gi, 1, none⟩ = some (.string (⟨#[]⟩ : ByteArray)) := (bC BKgi.out 1).trans rfl; have hfz2 := bF BKgi.out 1; have hcz3 : v4.cell? ⟨gi, 2, none⟩ = some (.bool false) := (bC BKgi.out 2).trans rfl; have hfz3 := bF BKgi.out 2; have hcz4 : v4.cell? ⟨gi, 3, none⟩ = some (.string (⟨#[]⟩ : ByteArray)) := (bC BKgi.out 3).trans rfl; have hfz4 := bF BKgi.out 3; have hcz5 : v4.cell? ⟨gi, 4, none⟩ = some (.int .i64 0) := (bC BKgi.out 4).trans rfl; have hfz5 := bF BKgi.out 4; have hcz6 : v4.cell? ⟨gi, 5, none⟩ = some (.slice none 0 0) := (bC BKgi.out 5).trans rfl; have hfz6 := bF BKgi.out 5) | ((with_reducible refine gS (t := 24) (p := 4) rfl ?_); refine sE (t := 24) (p := 4) (v := ?vo_v5) (w1 := ((((((v4.setCell ⟨gi, 0, none⟩ (.int .i64 kd)).setCell ⟨gi, 1, none⟩ (.string (⟨#[]⟩ : ByteArray))).setCell ⟨gi, 2, none⟩ (.bool false)).setCell ⟨gi, 3, none⟩ (.string (⟨#[]⟩ : ByteArray))).setCell ⟨gi, 4, none⟩ (.int .i64 0)).setCell ⟨gi, 5, none⟩ (.slice none 0 0))) ?hg ?ho ?hn ?hr ?_; (case ho => rfl); (case hg => rfl); (case hn => rfl); (case hr => first | (go_simp; done) | (go_simp; rfl)); intro v5 hw; have n0_ := A0_.mk (by rw [hw]; (with_reducible repeat (first | refine bN ?_ _ | refine bD ?_ | refine bA ?_ _)); refine bR ?_ NBgR_gi.out _; (with_reducible repeat (first | refine bN ?_ _ | refine bD ?_ | refine bA ?_ _)); refine bR ?_ NBgR_gi.out _; (with_reducible repeat (first | refine bN ?_ _ | refine bD ?_ | refine bA ?_ _)); refine bR ?_ NBgR_gi.out _; (with_reducible repeat (first | refine bN ?_ _ | refine bD ?_ | refine bA ?_ _)); refine bR ?_ NBgR_gi.out _; (with_reducible repeat (first | refine bN ?_ _ | refine bD ?_ | refine bA ?_ _)); refine bR ?_ NBgR_gi.out _; (with_reducible repeat (first | refine bN ?_ _ | refine bD ?_ | refine bA ?_ _)); refine bR ?_ NBgR_gi.out _; (with_reducible repeat (first | refine bN ?_ _ | refine bD ?_ | refine bA ?_ _)); exact BKgR.out : v5.heap[gR]? = some (.cells #[.int .i64 0, .string (⟨#[]⟩ : ByteArray), .bool false, .string (⟨#[]⟩ : ByteArray), .int .i64 0, .slice none 0 0] 24 (0, 0))); have n1_ := A0_.mk (by rw [hw]; (with_reducible repeat (first | refine bN ?_ _ | refine bD ?_ | refine bA ?_ _)); refine bR ?_ NBgr_gi.out _; (with_reducible repeat (first | refine bN ?_ _ | refine bD ?_ | refine bA ?_ _)); refine bR ?_ NBgr_gi.out _; (with_reducible repeat (first | refine bN ?_ _ | refine bD ?_ | refine bA ?_ _)); refine bR ?_ NBgr_gi.out _; (with_reducible repeat (first | refine bN ?_ _ | refine bD ?_ | refine bA ?_ _)); refine bR ?_ NBgr_gi.out _; (with_reducible repeat (first | refine bN ?_ _ | refine bD ?_ | refine bA ?_ _)); refine bR ?_ NBgr_gi.out _; (with_reducible repeat (first | refine bN ?_ _ | refine bD ?_ | refine bA ?_ _)); refine bR ?_ NBgr_gi.out _; (with_reducible repeat (first | refine bN ?_ _ | refine bD ?_ | refine bA ?_ _)); exact BKgr.out : v5.heap[gr]? = some (.cells #[.string s1] 74 (0, 0))); have n2_ := A0_.mk (by rw [hw]; (with_reducible repeat (first | refine bN ?_ _ | refine bD ?_ | refine bA ?_ _)); refine bP (cs := #[.int .i64 kd, .string (⟨#[]⟩ : ByteArray), .bool false, .string (⟨#[]⟩ : ByteArray), .int .i64 0, .slice none 0 0]) ?_ 5 _ rfl; (with_reducible repeat (first | refine bN ?_ _ | refine bD ?_ | refine bA ?_ _)); refine bP (cs := #[.int .i64 kd, .string (⟨#[]⟩ : ByteArray), .bool false, .string (⟨#[]⟩ : ByteArray), .int .i64 0, .slice none 0 0]) ?_ 4 _ rfl; (with_reducible repeat (first | refine bN ?_ _ | refine bD ?_ | refine bA ?_ _)); refine bP (cs := #[.int .i64 kd, .string (⟨#[]⟩ : ByteArray), .bool false, .string (⟨#[]⟩ : ByteArray), .int .i64 0, .slice none 0 0]) ?_ 3 _ rfl; (with_reducible repeat (first | refine bN ?_ _ | refine bD ?_ | refine bA ?_ _)); refine bP (cs := #[.int .i64 kd, .string (⟨#[]⟩ : ByteArray), .bool false, .string (⟨#[]⟩ : ByteArray), .int .i64 0, .slice none 0 0]) ?_ 2 _ rfl; (with_reducible repeat (first | refine bN ?_ _ | refine bD ?_ | refine bA ?_ _)); refine bP (cs := #[.int .i64 kd, .string (⟨#[]⟩ : ByteArray), .bool false, .string (⟨#[]⟩ : ByteArray), .int .i64 0, .slice none 0 0]) ?_ 1 _ rfl; (with_reducible repeat (first | refine bN ?_ _ | refine bD ?_ | refine bA ?_ _)); refine bP (cs := #[.int .i64 0, .string (⟨#[]⟩ : ByteArray), .bool false, .string (⟨#[]⟩ : ByteArray), .int .i64 0, .slice none 0 0]) ?_ 0 _ rfl; (with_reducible repeat (first | refine bN ?_ _ | refine bD ?_ | refine bA ?_ _)); exact BKgi.out : v5.heap[gi]? = some (.cells #[.int .i64 kd, .string (⟨#[]⟩ : ByteArray), .bool false, .string (⟨#[]⟩ : ByteArray), .int .i64 0, .slice none 0 0] 24 (0, 0))); have n3_ := A0_.mk (by rw [hw]; repeat (first | (with_reducible first | exact HB.out | apply wA | apply pN | apply wD | refine wS ?_ GEgR.out | refine wS ?_ GEgr.out | refine wS ?_ GEgi.out) | exact HB.out) : Below w.heap.size w v5); clear hcz1 hfz1 hcz2 hfz2 hcz3 hfz3 hcz4 hfz4 hcz5 hfz5 hcz6 hfz6; clear BKgR; clear BKgr; clear BKgi; clear HB; have BKgR := n0_; clear n0_; have BKgr := n1_; clear n1_; have BKgi := n2_; clear n2_; have HB := n3_; clear n3_; clear hw; have hcz7 : v5.cell? ⟨gi, 0, none⟩ = some (.int .i64 kd) := (bC BKgi.out 0).trans rfl; have hfz7 := bF BKgi.out 0; have hcz8 : v5.cell? ⟨gi, 1, none⟩ = some (.string (⟨#[]⟩ : ByteArray)) := (bC BKgi.out 1).trans rfl; have hfz8 := bF BKgi.out 1; have hcz9 : v5.cell? ⟨gi, 2, none⟩ = some (.bool false) := (bC BKgi.out 2).trans rfl; have hfz9 := bF BKgi.out 2; have hcz10 : v5.cell? ⟨gi, 3, none⟩ = some (.string (⟨#[]⟩ : ByteArray)) := (bC BKgi.out 3).trans rfl; have hfz10 := bF BKgi.out 3; have hcz11 : v5.cell? ⟨gi, 4, none⟩ = some (.int .i64 0) := (bC BKgi.out 4).trans rfl; have hfz11 := bF BKgi.out 4; have hcz12 : v5.cell? ⟨gi, 5, none⟩ = some (.slice none 0 0) := (bC BKgi.out 5).trans rfl; have hfz12 := bF BKgi.out 5))
 (try simp only [Act.put, List.setIfInBounds_toArray, List.set_cons_zero, List.set_cons_succ])
 go_cut [] (fun wc => ∃ (xb : ByteArray) (xh : Bool) (xv : ByteArray) (xm : Int) (xs : ByteArray) (l : List ByteArray) (s9 : ByteArray), A0_ (n9rest.f k xs = some (l, s9)) ∧ A0_ (some (kd, xb, xh, xv, xm, l) = some (r1, r2, r3, r4, r5, r6)) ∧ A0_ (wc.heap[gR]? = some (.cells #[.int .i64 0, .string (⟨#[]⟩ : ByteArray), .bool false, .string (⟨#[]⟩ : ByteArray), .int .i64 0, .slice none 0 0] 24 (0, 0))) ∧ A0_ (wc.heap[gr]? = some (.cells #[.string xs] 74 (0, 0))) ∧ A0_ (wc.heap[gi]? = some (.cells #[.int .i64 kd, .string xb, .bool xh, .string xv, .int .i64 xm, .slice none 0 0] 24 (0, 0))) ∧ A0_ (Below w.heap.size w wc))
 case first =>
  by_cases k1 : kd = 1
  ·rw [if_pos k1] at h
   obtain ⟨⟨b, s2⟩, h_, h⟩ := Option.bind_eq_some_iff.1 h
   dsimp only at h
   have H2 := Lib.hid h_; clear h_
   obtain ⟨⟨c, s3⟩, h_, h⟩ := Option.bind_eq_some_iff.1 h
   dsimp only at h
   have H3 := Lib.hid h_; clear h_
   obtain ⟨⟨d, s4⟩, h_, h⟩ := Option.bind_eq_some_iff.1 h
   dsimp only at h
   have H4 := Lib.hid h_; clear h_
   obtain ⟨⟨l, s9⟩, h_, h⟩ := Option.bind_eq_some_iff.1 h
   have H9 := Lib.hid h_; clear h_
   dsimp only at h
   have HE := Lib.hid h; clear h
   have f1 : (kd == 1) = true := beq_iff_eq.2 k1
   clear k1
   first | rw [f1] | skip
   go_wp2_with fail
   with_reducible refine (PNor.n9path.calls k gr s1 b s2 w _ (is74 (by (with_reducible repeat (first | refine bN ?_ _ | refine bD ?_ | refine bA ?_ _)); exact BKgr.out) GEgr.out) (by repeat (first | (with_reducible first | exact HB.out | apply wA | apply pN | apply wD | refine wS ?_ GEgR.out | refine wS ?_ GEgr.out | refine wS ?_ GEgi.out) | exact HB.out)) H2.out).mono ?_
   rintro e v6 ⟨rfl, hi_, hb2_, hk_⟩
   have n0_ := A0_.mk ((hk_.2 gR (bL (g := gR) (o := .cells #[.int .i64 0, .string (⟨#[]⟩ : ByteArray), .bool false, .string (⟨#[]⟩ : ByteArray), .int .i64 0, .slice none 0 0] 24 (0, 0)) (by (with_reducible repeat (first | refine bN ?_ _ | refine bD ?_ | refine bA ?_ _)); exact BKgR.out)) NBgR_gr.out (by simp)).trans (by (with_reducible repeat (first | refine bN ?_ _ | refine bD ?_ | refine bA ?_ _)); exact BKgR.out))
   have n1_ := A0_.mk hi_.1
   have n2_ := A0_.mk ((hk_.2 gi (bL (g := gi) (o := .cells #[.int .i64 kd, .string (⟨#[]⟩ : ByteArray), .bool false, .string (⟨#[]⟩ : ByteArray), .int .i64 0, .slice none 0 0] 24 (0, 0)) (by (with_reducible repeat (first | refine bN ?_ _ | refine bD ?_ | refine bA ?_ _)); exact BKgi.out)) NBgi_gr.out (by simp)).trans (by (with_reducible repeat (first | refine bN ?_ _ | refine bD ?_ | refine bA ?_ _)); exact BKgi.out))
   have n3_ := A0_.mk hb2_
   clear hcz7 hfz7 hcz8 hfz8 hcz9 hfz9 hcz10 hfz10 hcz11 hfz11 hcz12 hfz12
   clear BKgR
   clear BKgr
   clear BKgi
   clear HB
   have BKgR := n0_; clear n0_
   have BKgr := n1_; clear n1_
   have BKgi := n2_; clear n2_
   have HB := n3_; clear n3_
   clear hi_ hb2_ hk_
   have hcz13 : v6.cell? ⟨gi, 0, none⟩ = some (.int .i64 kd) := (bC BKgi.out 0).trans rfl
   have hfz13 := bF BKgi.out 0
   have hcz14 : v6.cell? ⟨gi, 1, none⟩ = some (.string (⟨#[]⟩ : ByteArray)) := (bC BKgi.out 1).trans rfl
   have hfz14 := bF BKgi.out 1
   have hcz15 : v6.cell? ⟨gi, 2, none⟩ = some (.bool false) := (bC BKgi.out 2).trans rfl
   have hfz15 := bF BKgi.out 2
   have hcz16 : v6.cell? ⟨gi, 3, none⟩ = some (.string (⟨#[]⟩ : ByteArray)) := (bC BKgi.out 3).trans rfl
   have hfz16 := bF BKgi.out 3
   have hcz17 : v6.cell? ⟨gi, 4, none⟩ = some (.int .i64 0) := (bC BKgi.out 4).trans rfl
   have hfz17 := bF BKgi.out 4
   have hcz18 : v6.cell? ⟨gi, 5, none⟩ = some (.slice none 0 0) := (bC BKgi.out 5).trans rfl
   have hfz18 := bF BKgi.out 5
   go_wp2_with (first | ((with_reducible refine gS (t := 9) (p := 17) rfl ?_); refine sE (t := 9) (p := 17) (v := ?vo_v11) (w1 := (v6.setCell ⟨gi, 1, none⟩ (.string b))) ?hg ?ho ?hn ?hr ?_; (case ho => rfl); (case hg => rfl); (case hn => rfl); (case hr => first | (go_simp; done) | (go_simp; rfl)); intro v11 hw; have n0_ := A0_.mk (by rw [hw]; (with_reducible repeat (first | refine bN ?_ _ | refine bD ?_ | refine bA ?_ _)); refine bR ?_ NBgR_gi.out _; (with_reducible repeat (first | refine bN ?_ _ | refine bD ?_ | refine bA ?_ _)); exact BKgR.out : v11.heap[gR]? = some (.cells #[.int .i64 0, .string (⟨#[]⟩ : ByteArray), .bool false, .string (⟨#[]⟩ : ByteArray), .int .i64 0, .slice none 0 0] 24 (0, 0))); have n1_ := A0_.mk (by rw [hw]; (with_reducible repeat (first | refine bN ?_ _ | refine bD ?_ | refine bA ?_ _)); refine bR ?_ NBgr_gi.out _; (with_reducible repeat (first | refine bN ?_ _ | refine bD ?_ | refine bA ?_ _)); exact BKgr.out : v11.heap[gr]? = some (.cells #[.string s2] 74 (0, 0))); have n2_ := A0_.mk (by rw [hw]; (with_reducible repeat (first | refine bN ?_ _ | refine bD ?_ | refine bA ?_ _)); refine bP (cs := #[.int .i64 kd, .string (⟨#[]⟩ : ByteArray), .bool false, .string (⟨#[]⟩ : ByteArray), .int .i64 0, .slice none 0 0]) ?_ 1 _ rfl; (with_reducible repeat (first | refine bN ?_ _ | refine bD ?_ | refine bA ?_ _)); exact BKgi.out : v11.heap[gi]? = some (.cells #[.int .i64 kd, .string b, .bool false, .string (⟨#[]⟩ : ByteArray), .int .i64 0, .slice none 0 0] 24 (0, 0))); have n3_ := A0_.mk (by rw [hw]; repeat (first | (with_reducible first | exact HB.out | apply wA | apply pN | apply wD | refine wS ?_ GEgR.out | refine wS ?_ GEgr.out | refine wS ?_ GEgi.out) | exact HB.out) : Below w.heap.size w v11); clear hcz13 hfz13 hcz14 hfz14 hcz15 hfz15 hcz16 hfz16 hcz17 hfz17 hcz18 hfz18; clear BKgR; clear BKgr; clear BKgi; clear HB; have BKgR := n0_; clear n0_; have BKgr := n1_; clear n1_; have BKgi := n2_; clear n2_; have HB := n3_; clear n3_; clear hw; have hcz19 : v11.cell? ⟨gi, 0, none⟩ = some (.int .i64 kd) := (bC BKgi.out 0).trans rfl; have hfz19 := bF BKgi.out 0; have hcz20 : v11.cell? ⟨gi, 1, none⟩ = some (.string b) := (bC BKgi.out 1).trans rfl; have hfz20 := bF BKgi.out 1; have hcz21 : v11.cell? ⟨gi, 2, none⟩ = some (.bool false) := (bC BKgi.out 2).trans rfl; have hfz21 := bF BKgi.out 2; have hcz22 : v11.cell? ⟨gi, 3, none⟩ = some (.string (⟨#[]⟩ : ByteArray)) := (bC BKgi.out 3).trans rfl; have hfz22 := bF BKgi.out 3; have hcz23 : v11.cell? ⟨gi, 4, none⟩ = some (.int .i64 0) := (bC BKgi.out 4).trans rfl; have hfz23 := bF BKgi.out 4; have hcz24 : v11.cell? ⟨gi, 5, none⟩ = some (.slice none 0 0) := (bC BKgi.out 5).trans rfl; have hfz24 := bF BKgi.out 5) | ((with_reducible refine gS (t := 4) (p := 18) rfl ?_); refine sE (t := 4) (p := 18) (v := ?vo_v12) (w1 := (v11.setCell ⟨gi, 2, none⟩ (.bool true))) ?hg ?ho ?hn ?hr ?_; (case ho => rfl); (case hg => rfl); (case hn => rfl); (case hr => first | (go_simp; done) | (go_simp; rfl)); intro v12 hw; have n0_ := A0_.mk (by rw [hw]; (with_reducible repeat (first | refine bN ?_ _ | refine bD ?_ | refine bA ?_ _)); refine bR ?_ NBgR_gi.out _; (with_reducible repeat (first | refine bN ?_ _ | refine bD ?_ | refine bA ?_ _)); exact BKgR.out : v12.heap[gR]? = some (.cells #[.int .i64 0, .string (⟨#[]⟩ : ByteArray), .bool false, .string (⟨#[]⟩ : ByteArray), .int .i64 0, .slice none 0 0] 24 (0, 0))); have n1_ := A0_.mk (by rw [hw]; (with_reducible repeat (first | refine bN ?_ _ | refine bD ?_ | refine bA ?_ _)); refine bR ?_ NBgr_gi.out _; (with_reducible repeat (first | refine bN ?_ _ | refine bD ?_ | refine bA ?_ _)); exact BKgr.out : v12.heap[gr]? = some (.cells #[.string s2] 74 (0, 0))); have n2_ := A0_.mk (by rw [hw]; (with_reducible repeat (first | refine bN ?_ _ | refine bD ?_ | refine bA ?_ _)); refine bP (cs := #[.int .i64 kd, .string b, .bool false, .string (⟨#[]⟩ : ByteArray), .int .i64 0, .slice none 0 0]) ?_ 2 _ rfl; (with_reducible repeat (first | refine bN ?_ _ | refine bD ?_ | refine bA ?_ _)); exact BKgi.out : v12.heap[gi]? = some (.cells #[.int .i64 kd, .string b, .bool true, .string (⟨#[]⟩ : ByteArray), .int .i64 0, .slice none 0 0] 24 (0, 0))); have n3_ := A0_.mk (by rw [hw]; repeat (first | (with_reducible first | exact HB.out | apply wA | apply pN | apply wD | refine wS ?_ GEgR.out | refine wS ?_ GEgr.out | refine wS ?_ GEgi.out) | exact HB.out) : Below w.heap.size w v12); clear hcz19 hfz19 hcz20 hfz20 hcz21 hfz21 hcz22 hfz22 hcz23 hfz23 hcz24 hfz24; clear BKgR; clear BKgr; clear BKgi; clear HB; have BKgR := n0_; clear n0_; have BKgr := n1_; clear n1_; have BKgi := n2_; clear n2_; have HB := n3_; clear n3_; clear hw; have hcz25 : v12.cell? ⟨gi, 0, none⟩ = some (.int .i64 kd) := (bC BKgi.out 0).trans rfl; have hfz25 := bF BKgi.out 0; have hcz26 : v12.cell? ⟨gi, 1, none⟩ = some (.string b) := (bC BKgi.out 1).trans rfl; have hfz26 := bF BKgi.out 1; have hcz27 : v12.cell? ⟨gi, 2, none⟩ = some (.bool true) := (bC BKgi.out 2).trans rfl; have hfz27 := bF BKgi.out 2; have hcz28 : v12.cell? ⟨gi, 3, none⟩ = some (.string (⟨#[]⟩ : ByteArray)) := (bC BKgi.out 3).trans rfl; have hfz28 := bF BKgi.out 3; have hcz29 : v12.cell? ⟨gi, 4, none⟩ = some (.int .i64 0) := (bC BKgi.out 4).trans rfl; have hfz29 := bF BKgi.out 4; have hcz30 : v12.cell? ⟨gi, 5, none⟩ = some (.slice none 0 0) := (bC BKgi.out 5).trans rfl; have hfz30 := bF BKgi.out 5))
   with_reducible refine (PNor.n9number.calls gr s2 c s3 w _ (is74 (by (with_reducible repeat (first | refine bN ?_ _ | refine bD ?_ | refine bA ?_ _)); exact BKgr.out) GEgr.out) (by repeat (first | (with_reducible first | exact HB.out | apply wA | apply pN | apply wD | refine wS ?_ GEgR.out | refine wS ?_ GEgr.out | refine wS ?_ GEgi.out) | exact HB.out)) H3.out).mono ?_
   rintro e v8 ⟨rfl, hi_, hb2_, hk_⟩
   have n0_ := A0_.mk ((hk_.2 gR (bL (g := gR) (o := .cells #[.int .i64 0, .string (⟨#[]⟩ : ByteArray), .bool false, .string (⟨#[]⟩ : ByteArray), .int .i64 0, .slice none 0 0] 24 (0, 0)) (by (with_reducible repeat (first | refine bN ?_ _ | refine bD ?_ | refine bA ?_ _)); exact BKgR.out)) NBgR_gr.out (by simp)).trans (by (with_reducible repeat (first | refine bN ?_ _ | refine bD ?_ | refine bA ?_ _)); exact BKgR.out))
   have n1_ := A0_.mk hi_.1
   have n2_ := A0_.mk ((hk_.2 gi (bL (g := gi) (o := .cells #[.int .i64 kd, .string b, .bool true, .string (⟨#[]⟩ : ByteArray), .int .i64 0, .slice none 0 0] 24 (0, 0)) (by (with_reducible repeat (first | refine bN ?_ _ | refine bD ?_ | refine bA ?_ _)); exact BKgi.out)) NBgi_gr.out (by simp)).trans (by (with_reducible repeat (first | refine bN ?_ _ | refine bD ?_ | refine bA ?_ _)); exact BKgi.out))
   have n3_ := A0_.mk hb2_
   clear hcz25 hfz25 hcz26 hfz26 hcz27 hfz27 hcz28 hfz28 hcz29 hfz29 hcz30 hfz30
   clear BKgR
   clear BKgr
   clear BKgi
   clear HB
   have BKgR := n0_; clear n0_
   have BKgr := n1_; clear n1_
   have BKgi := n2_; clear n2_
   have HB := n3_; clear n3_
   clear hi_ hb2_ hk_
   have hcz31 : v8.cell? ⟨gi, 0, none⟩ = some (.int .i64 kd) := (bC BKgi.out 0).trans rfl
   have hfz31 := bF BKgi.out 0
   have hcz32 : v8.cell? ⟨gi, 1, none⟩ = some (.string b) := (bC BKgi.out 1).trans rfl
   have hfz32 := bF BKgi.out 1
   have hcz33 : v8.cell? ⟨gi, 2, none⟩ = some (.bool true) := (bC BKgi.out 2).trans rfl
   have hfz33 := bF BKgi.out 2
   have hcz34 : v8.cell? ⟨gi, 3, none⟩ = some (.string (⟨#[]⟩ : ByteArray)) := (bC BKgi.out 3).trans rfl
   have hfz34 := bF BKgi.out 3
   have hcz35 : v8.cell? ⟨gi, 4, none⟩ = some (.int .i64 0) := (bC BKgi.out 4).trans rfl
   have hfz35 := bF BKgi.out 4
   have hcz36 : v8.cell? ⟨gi, 5, none⟩ = some (.slice none 0 0) := (bC BKgi.out 5).trans rfl
   have hfz36 := bF BKgi.out 5
   go_wp2_with fail
   with_reducible refine (PNor.n9take.calls gr s3 c d s4 w _ (is74 (by (with_reducible repeat (first | refine bN ?_ _ | refine bD ?_ | refine bA ?_ _)); exact BKgr.out) GEgr.out) (by repeat (first | (with_reducible first | exact HB.out | apply wA | apply pN | apply wD | refine wS ?_ GEgR.out | refine wS ?_ GEgr.out | refine wS ?_ GEgi.out) | exact HB.out)) H4.out).mono ?_
   rintro e v9 ⟨rfl, hi_, hb2_, hk_⟩
   have n0_ := A0_.mk ((hk_.2 gR (bL (g := gR) (o := .cells #[.int .i64 0, .string (⟨#[]⟩ : ByteArray), .bool false, .string (⟨#[]⟩ : ByteArray), .int .i64 0, .slice none 0 0] 24 (0, 0)) (by (with_reducible repeat (first | refine bN ?_ _ | refine bD ?_ | refine bA ?_ _)); exact BKgR.out)) NBgR_gr.out (by simp)).trans (by (with_reducible repeat (first | refine bN ?_ _ | refine bD ?_ | refine bA ?_ _)); exact BKgR.out))
   have n1_ := A0_.mk hi_.1
   have n2_ := A0_.mk ((hk_.2 gi (bL (g := gi) (o := .cells #[.int .i64 kd, .string b, .bool true, .string (⟨#[]⟩ : ByteArray), .int .i64 0, .slice none 0 0] 24 (0, 0)) (by (with_reducible repeat (first | refine bN ?_ _ | refine bD ?_ | refine bA ?_ _)); exact BKgi.out)) NBgi_gr.out (by simp)).trans (by (with_reducible repeat (first | refine bN ?_ _ | refine bD ?_ | refine bA ?_ _)); exact BKgi.out))
   have n3_ := A0_.mk hb2_
   clear hcz31 hfz31 hcz32 hfz32 hcz33 hfz33 hcz34 hfz34 hcz35 hfz35 hcz36 hfz36
   clear BKgR
   clear BKgr
   clear BKgi
   clear HB
   have BKgR := n0_; clear n0_
   have BKgr := n1_; clear n1_
   have BKgi := n2_; clear n2_
   have HB := n3_; clear n3_
   clear hi_ hb2_ hk_
   have hcz37 : v9.cell? ⟨gi, 0, none⟩ = some (.int .i64 kd) := (bC BKgi.out 0).trans rfl
   have hfz37 := bF BKgi.out 0
   have hcz38 : v9.cell? ⟨gi, 1, none⟩ = some (.string b) := (bC BKgi.out 1).trans rfl
   have hfz38 := bF BKgi.out 1
   have hcz39 : v9.cell? ⟨gi, 2, none⟩ = some (.bool true) := (bC BKgi.out 2).trans rfl
   have hfz39 := bF BKgi.out 2
   have hcz40 : v9.cell? ⟨gi, 3, none⟩ = some (.string (⟨#[]⟩ : ByteArray)) := (bC BKgi.out 3).trans rfl
   have hfz40 := bF BKgi.out 3
   have hcz41 : v9.cell? ⟨gi, 4, none⟩ = some (.int .i64 0) := (bC BKgi.out 4).trans rfl
   have hfz41 := bF BKgi.out 4
   have hcz42 : v9.cell? ⟨gi, 5, none⟩ = some (.slice none 0 0) := (bC BKgi.out 5).trans rfl
   have hfz42 := bF BKgi.out 5
   go_wp2_with ((with_reducible refine gS (t := 9) (p := 23) rfl ?_); refine sE (t := 9) (p := 23) (v := ?vo_v13) (w1 := (v9.setCell ⟨gi, 3, none⟩ (.string d))) ?hg ?ho ?hn ?hr ?_; (case ho => rfl); (case hg => rfl); (case hn => rfl); (case hr => first | (go_simp; done) | (go_simp; rfl)); intro v13 hw; have n0_ := A0_.mk (by rw [hw]; (with_reducible repeat (first | refine bN ?_ _ | refine bD ?_ | refine bA ?_ _)); refine bR ?_ NBgR_gi.out _; (with_reducible repeat (first | refine bN ?_ _ | refine bD ?_ | refine bA ?_ _)); exact BKgR.out : v13.heap[gR]? = some (.cells #[.int .i64 0, .string (⟨#[]⟩ : ByteArray), .bool false, .string (⟨#[]⟩ : ByteArray), .int .i64 0, .slice none 0 0] 24 (0, 0))); have n1_ := A0_.mk (by rw [hw]; (with_reducible repeat (first | refine bN ?_ _ | refine bD ?_ | refine bA ?_ _)); refine bR ?_ NBgr_gi.out _; (with_reducible repeat (first | refine bN ?_ _ | refine bD ?_ | refine bA ?_ _)); exact BKgr.out : v13.heap[gr]? = some (.cells #[.string s4] 74 (0, 0))); have n2_ := A0_.mk (by rw [hw]; (with_reducible repeat (first | refine bN ?_ _ | refine bD ?_ | refine bA ?_ _)); refine bP (cs := #[.int .i64 kd, .string b, .bool true, .string (⟨#[]⟩ : ByteArray), .int .i64 0, .slice none 0 0]) ?_ 3 _ rfl; (with_reducible repeat (first | refine bN ?_ _ | refine bD ?_ | refine bA ?_ _)); exact BKgi.out : v13.heap[gi]? = some (.cells #[.int .i64 kd, .string b, .bool true, .string d, .int .i64 0, .slice none 0 0] 24 (0, 0))); have n3_ := A0_.mk (by rw [hw]; repeat (first | (with_reducible first | exact HB.out | apply wA | apply pN | apply wD | refine wS ?_ GEgR.out | refine wS ?_ GEgr.out | refine wS ?_ GEgi.out) | exact HB.out) : Below w.heap.size w v13); clear hcz37 hfz37 hcz38 hfz38 hcz39 hfz39 hcz40 hfz40 hcz41 hfz41 hcz42 hfz42; clear BKgR; clear BKgr; clear BKgi; clear HB; have BKgR := n0_; clear n0_; have BKgr := n1_; clear n1_; have BKgi := n2_; clear n2_; have HB := n3_; clear n3_; clear hw; have hcz43 : v13.cell? ⟨gi, 0, none⟩ = some (.int .i64 kd) := (bC BKgi.out 0).trans rfl; have hfz43 := bF BKgi.out 0; have hcz44 : v13.cell? ⟨gi, 1, none⟩ = some (.string b) := (bC BKgi.out 1).trans rfl; have hfz44 := bF BKgi.out 1; have hcz45 : v13.cell? ⟨gi, 2, none⟩ = some (.bool true) := (bC BKgi.out 2).trans rfl; have hfz45 := bF BKgi.out 2; have hcz46 : v13.cell? ⟨gi, 3, none⟩ = some (.string d) := (bC BKgi.out 3).trans rfl; have hfz46 := bF BKgi.out 3; have hcz47 : v13.cell? ⟨gi, 4, none⟩ = some (.int .i64 0) := (bC BKgi.out 4).trans rfl; have hfz47 := bF BKgi.out 4; have hcz48 : v13.cell? ⟨gi, 5, none⟩ = some (.slice none 0 0) := (bC BKgi.out 5).trans rfl; have hfz48 := bF BKgi.out 5)
   go_meet
   case rel => exact ⟨b, true, d, 0, s4, l, s9, ⟨H9.out⟩, ⟨HE.out⟩, ⟨BKgR.out⟩, ⟨BKgr.out⟩, ⟨BKgi.out⟩, ⟨HB.out⟩⟩
  by_cases k2 : kd = 2
  ·rw [if_neg k1, if_pos k2] at h
   obtain ⟨⟨b, s2⟩, h_, h⟩ := Option.bind_eq_some_iff.1 h
   dsimp only at h
   have H2 := Lib.hid h_; clear h_
   obtain ⟨⟨l, s9⟩, h_, h⟩ := Option.bind_eq_some_iff.1 h
   have H9 := Lib.hid h_; clear h_
   dsimp only at h
   have HE := Lib.hid h; clear h
   have f1 : (kd == 1) = false := beq_eq_false_iff_ne.2 k1
   have f2 : (kd == 2) = true := beq_iff_eq.2 k2
   clear k1 k2
   first | rw [f1] | skip
   go_wp2_with fail
   with_reducible refine (PNor.n9path.calls k gr s1 b s2 w _ (is74 (by (with_reducible repeat (first | refine bN ?_ _ | refine bD ?_ | refine bA ?_ _)); exact BKgr.out) GEgr.out) (by repeat (first | (with_reducible first | exact HB.out | apply wA | apply pN | apply wD | refine wS ?_ GEgR.out | refine wS ?_ GEgr.out | refine wS ?_ GEgi.out) | exact HB.out)) H2.out).mono ?_
   rintro e v6 ⟨rfl, hi_, hb2_, hk_⟩
   have n0_ := A0_.mk ((hk_.2 gR (bL (g := gR) (o := .cells #[.int .i64 0, .string (⟨#[]⟩ : ByteArray), .bool false, .string (⟨#[]⟩ : ByteArray), .int .i64 0, .slice none 0 0] 24 (0, 0)) (by (with_reducible repeat (first | refine bN ?_ _ | refine bD ?_ | refine bA ?_ _)); exact BKgR.out)) NBgR_gr.out (by simp)).trans (by (with_reducible repeat (first | refine bN ?_ _ | refine bD ?_ | refine bA ?_ _)); exact BKgR.out))
   have n1_ := A0_.mk hi_.1
   have n2_ := A0_.mk ((hk_.2 gi (bL (g := gi) (o := .cells #[.int .i64 kd, .string (⟨#[]⟩ : ByteArray), .bool false, .string (⟨#[]⟩ : ByteArray), .int .i64 0, .slice none 0 0] 24 (0, 0)) (by (with_reducible repeat (first | refine bN ?_ _ | refine bD ?_ | refine bA ?_ _)); exact BKgi.out)) NBgi_gr.out (by simp)).trans (by (with_reducible repeat (first | refine bN ?_ _ | refine bD ?_ | refine bA ?_ _)); exact BKgi.out))
   have n3_ := A0_.mk hb2_
   clear hcz7 hfz7 hcz8 hfz8 hcz9 hfz9 hcz10 hfz10 hcz11 hfz11 hcz12 hfz12
   clear BKgR
   clear BKgr
   clear BKgi
   clear HB
   have BKgR := n0_; clear n0_
   have BKgr := n1_; clear n1_
   have BKgi := n2_; clear n2_
   have HB := n3_; clear n3_
   clear hi_ hb2_ hk_
   have hcz13 : v6.cell? ⟨gi, 0, none⟩ = some (.int .i64 kd) := (bC BKgi.out 0).trans rfl
   have hfz13 := bF BKgi.out 0
   have hcz14 : v6.cell? ⟨gi, 1, none⟩ = some (.string (⟨#[]⟩ : ByteArray)) := (bC BKgi.out 1).trans rfl
   have hfz14 := bF BKgi.out 1
   have hcz15 : v6.cell? ⟨gi, 2, none⟩ = some (.bool false) := (bC BKgi.out 2).trans rfl
   have hfz15 := bF BKgi.out 2
   have hcz16 : v6.cell? ⟨gi, 3, none⟩ = some (.string (⟨#[]⟩ : ByteArray)) := (bC BKgi.out 3).trans rfl
   have hfz16 := bF BKgi.out 3
   have hcz17 : v6.cell? ⟨gi, 4, none⟩ = some (.int .i64 0) := (bC BKgi.out 4).trans rfl
   have hfz17 := bF BKgi.out 4
   have hcz18 : v6.cell? ⟨gi, 5, none⟩ = some (.slice none 0 0) := (bC BKgi.out 5).trans rfl
   have hfz18 := bF BKgi.out 5
   go_wp2_with (first | ((with_reducible refine gS (t := 9) (p := 28) rfl ?_); refine sE (t := 9) (p := 28) (v := ?vo_v14) (w1 := (v6.setCell ⟨gi, 1, none⟩ (.string b))) ?hg ?ho ?hn ?hr ?_; (case ho => rfl); (case hg => rfl); (case hn => rfl); (case hr => first | (go_simp; done) | (go_simp; rfl)); intro v14 hw; have n0_ := A0_.mk (by rw [hw]; (with_reducible repeat (first | refine bN ?_ _ | refine bD ?_ | refine bA ?_ _)); refine bR ?_ NBgR_gi.out _; (with_reducible repeat (first | refine bN ?_ _ | refine bD ?_ | refine bA ?_ _)); exact BKgR.out : v14.heap[gR]? = some (.cells #[.int .i64 0, .string (⟨#[]⟩ : ByteArray), .bool false, .string (⟨#[]⟩ : ByteArray), .int .i64 0, .slice none 0 0] 24 (0, 0))); have n1_ := A0_.mk (by rw [hw]; (with_reducible repeat (first | refine bN ?_ _ | refine bD ?_ | refine bA ?_ _)); refine bR ?_ NBgr_gi.out _; (with_reducible repeat (first | refine bN ?_ _ | refine bD ?_ | refine bA ?_ _)); exact BKgr.out : v14.heap[gr]? = some (.cells #[.string s2] 74 (0, 0))); have n2_ := A0_.mk (by rw [hw]; (with_reducible repeat (first | refine bN ?_ _ | refine bD ?_ | refine bA ?_ _)); refine bP (cs := #[.int .i64 kd, .string (⟨#[]⟩ : ByteArray), .bool false, .string (⟨#[]⟩ : ByteArray), .int .i64 0, .slice none 0 0]) ?_ 1 _ rfl; (with_reducible repeat (first | refine bN ?_ _ | refine bD ?_ | refine bA ?_ _)); exact BKgi.out : v14.heap[gi]? = some (.cells #[.int .i64 kd, .string b, .bool false, .string (⟨#[]⟩ : ByteArray), .int .i64 0, .slice none 0 0] 24 (0, 0))); have n3_ := A0_.mk (by rw [hw]; repeat (first | (with_reducible first | exact HB.out | apply wA | apply pN | apply wD | refine wS ?_ GEgR.out | refine wS ?_ GEgr.out | refine wS ?_ GEgi.out) | exact HB.out) : Below w.heap.size w v14); clear hcz13 hfz13 hcz14 hfz14 hcz15 hfz15 hcz16 hfz16 hcz17 hfz17 hcz18 hfz18; clear BKgR; clear BKgr; clear BKgi; clear HB; have BKgR := n0_; clear n0_; have BKgr := n1_; clear n1_; have BKgi := n2_; clear n2_; have HB := n3_; clear n3_; clear hw; have hcz19 : v14.cell? ⟨gi, 0, none⟩ = some (.int .i64 kd) := (bC BKgi.out 0).trans rfl; have hfz19 := bF BKgi.out 0; have hcz20 : v14.cell? ⟨gi, 1, none⟩ = some (.string b) := (bC BKgi.out 1).trans rfl; have hfz20 := bF BKgi.out 1; have hcz21 : v14.cell? ⟨gi, 2, none⟩ = some (.bool false) := (bC BKgi.out 2).trans rfl; have hfz21 := bF BKgi.out 2; have hcz22 : v14.cell? ⟨gi, 3, none⟩ = some (.string (⟨#[]⟩ : ByteArray)) := (bC BKgi.out 3).trans rfl; have hfz22 := bF BKgi.out 3; have hcz23 : v14.cell? ⟨gi, 4, none⟩ = some (.int .i64 0) := (bC BKgi.out 4).trans rfl; have hfz23 := bF BKgi.out 4; have hcz24 : v14.cell? ⟨gi, 5, none⟩ = some (.slice none 0 0) := (bC BKgi.out 5).trans rfl; have hfz24 := bF BKgi.out 5) | ((with_reducible refine gS (t := 3) (p := 29) rfl ?_); refine sE (t := 3) (p := 29) (v := ?vo_v15) (w1 := (v14.setCell ⟨gi, 4, none⟩ (.int .i64 1))) ?hg ?ho ?hn ?hr ?_; (case ho => rfl); (case hg => rfl); (case hn => rfl); (case hr => first | (go_simp; done) | (go_simp; rfl)); intro v15 hw; have n0_ := A0_.mk (by rw [hw]; (with_reducible repeat (first | refine bN ?_ _ | refine bD ?_ | refine bA ?_ _)); refine bR ?_ NBgR_gi.out _; (with_reducible repeat (first | refine bN ?_ _ | refine bD ?_ | refine bA ?_ _)); exact BKgR.out : v15.heap[gR]? = some (.cells #[.int .i64 0, .string (⟨#[]⟩ : ByteArray), .bool false, .string (⟨#[]⟩ : ByteArray), .int .i64 0, .slice none 0 0] 24 (0, 0))); have n1_ := A0_.mk (by rw [hw]; (with_reducible repeat (first | refine bN ?_ _ | refine bD ?_ | refine bA ?_ _)); refine bR ?_ NBgr_gi.out _; (with_reducible repeat (first | refine bN ?_ _ | refine bD ?_ | refine bA ?_ _)); exact BKgr.out : v15.heap[gr]? = some (.cells #[.string s2] 74 (0, 0))); have n2_ := A0_.mk (by rw [hw]; (with_reducible repeat (first | refine bN ?_ _ | refine bD ?_ | refine bA ?_ _)); refine bP (cs := #[.int .i64 kd, .string b, .bool false, .string (⟨#[]⟩ : ByteArray), .int .i64 0, .slice none 0 0]) ?_ 4 _ rfl; (with_reducible repeat (first | refine bN ?_ _ | refine bD ?_ | refine bA ?_ _)); exact BKgi.out : v15.heap[gi]? = some (.cells #[.int .i64 kd, .string b, .bool false, .string (⟨#[]⟩ : ByteArray), .int .i64 1, .slice none 0 0] 24 (0, 0))); have n3_ := A0_.mk (by rw [hw]; repeat (first | (with_reducible first | exact HB.out | apply wA | apply pN | apply wD | refine wS ?_ GEgR.out | refine wS ?_ GEgr.out | refine wS ?_ GEgi.out) | exact HB.out) : Below w.heap.size w v15); clear hcz19 hfz19 hcz20 hfz20 hcz21 hfz21 hcz22 hfz22 hcz23 hfz23 hcz24 hfz24; clear BKgR; clear BKgr; clear BKgi; clear HB; have BKgR := n0_; clear n0_; have BKgr := n1_; clear n1_; have BKgi := n2_; clear n2_; have HB := n3_; clear n3_; clear hw; have hcz25 : v15.cell? ⟨gi, 0, none⟩ = some (.int .i64 kd) := (bC BKgi.out 0).trans rfl; have hfz25 := bF BKgi.out 0; have hcz26 : v15.cell? ⟨gi, 1, none⟩ = some (.string b) := (bC BKgi.out 1).trans rfl; have hfz26 := bF BKgi.out 1; have hcz27 : v15.cell? ⟨gi, 2, none⟩ = some (.bool false) := (bC BKgi.out 2).trans rfl; have hfz27 := bF BKgi.out 2; have hcz28 : v15.cell? ⟨gi, 3, none⟩ = some (.string (⟨#[]⟩ : ByteArray)) := (bC BKgi.out 3).trans rfl; have hfz28 := bF BKgi.out 3; have hcz29 : v15.cell? ⟨gi, 4, none⟩ = some (.int .i64 1) := (bC BKgi.out 4).trans rfl; have hfz29 := bF BKgi.out 4; have hcz30 : v15.cell? ⟨gi, 5, none⟩ = some (.slice none 0 0) := (bC BKgi.out 5).trans rfl; have hfz30 := bF BKgi.out 5))
   go_meet
   case rel => exact ⟨b, false, (⟨#[]⟩ : ByteArray), 1, s2, l, s9, ⟨H9.out⟩, ⟨HE.out⟩, ⟨BKgR.out⟩, ⟨BKgr.out⟩, ⟨BKgi.out⟩, ⟨HB.out⟩⟩
  by_cases k3 : kd = 3
  rotate_left
  ·rw [if_neg k1, if_neg k2, if_neg k3] at h
   obtain ⟨⟨l, s9⟩, h_, h⟩ := Option.bind_eq_some_iff.1 h
   have H9 := Lib.hid h_; clear h_
   dsimp only at h
   have HE := Lib.hid h; clear h
   have f1 : (kd == 1) = false := beq_eq_false_iff_ne.2 k1
   have f2 : (kd == 2) = false := beq_eq_false_iff_ne.2 k2
   have f3 : (kd == 3) = false := beq_eq_false_iff_ne.2 k3
   clear k1 k2 k3
   first | rw [f1] | skip
   go_wp2_with fail
   go_meet
   case rel => exact ⟨(⟨#[]⟩ : ByteArray), false, (⟨#[]⟩ : ByteArray), 0, s1, l, s9, ⟨H9.out⟩, ⟨HE.out⟩, ⟨BKgR.out⟩, ⟨BKgr.out⟩, ⟨BKgi.out⟩, ⟨HB.out⟩⟩
  rw [if_neg k1, if_neg k2, if_pos k3] at h
  obtain ⟨⟨b, s2⟩, h_, h⟩ := Option.bind_eq_some_iff.1 h
  dsimp only at h
  have H2 := Lib.hid h_; clear h_
  obtain ⟨⟨c, s3⟩, h_, h⟩ := Option.bind_eq_some_iff.1 h
  dsimp only at h
  have H3 := Lib.hid h_; clear h_
  obtain ⟨⟨d, s4⟩, h_, h⟩ := Option.bind_eq_some_iff.1 h
  dsimp only at h
  have H4 := Lib.hid h_; clear h_
  have f1 : (kd == 1) = false := beq_eq_false_iff_ne.2 k1
  have f2 : (kd == 2) = false := beq_eq_false_iff_ne.2 k2
  have f3 : (kd == 3) = true := beq_iff_eq.2 k3
  clear k1 k2 k3
  by_cases k4 : d = 1
  ·rw [if_pos k4] at h
   obtain ⟨⟨m, s5⟩, h_, h⟩ := Option.bind_eq_some_iff.1 h
   dsimp only at h
   have H5 := Lib.hid h_; clear h_
   obtain ⟨⟨v, s6⟩, h_, h⟩ := Option.bind_eq_some_iff.1 h
   dsimp only at h
   have H6 := Lib.hid h_; clear h_
   obtain ⟨⟨l, s9⟩, h_, h⟩ := Option.bind_eq_some_iff.1 h
   have H9 := Lib.hid h_; clear h_
   dsimp only at h
   have HE := Lib.hid h; clear h
   have f4 : (d == 1) = true := beq_iff_eq.2 k4
   clear k4
   first | rw [f1] | skip
   go_wp2_with fail
   with_reducible refine (PNor.n9number.calls gr s1 b s2 w _ (is74 (by (with_reducible repeat (first | refine bN ?_ _ | refine bD ?_ | refine bA ?_ _)); exact BKgr.out) GEgr.out) (by repeat (first | (with_reducible first | exact HB.out | apply wA | apply pN | apply wD | refine wS ?_ GEgR.out | refine wS ?_ GEgr.out | refine wS ?_ GEgi.out) | exact HB.out)) H2.out).mono ?_
   rintro e v6 ⟨rfl, hi_, hb2_, hk_⟩
   have n0_ := A0_.mk ((hk_.2 gR (bL (g := gR) (o := .cells #[.int .i64 0, .string (⟨#[]⟩ : ByteArray), .bool false, .string (⟨#[]⟩ : ByteArray), .int .i64 0, .slice none 0 0] 24 (0, 0)) (by (with_reducible repeat (first | refine bN ?_ _ | refine bD ?_ | refine bA ?_ _)); exact BKgR.out)) NBgR_gr.out (by simp)).trans (by (with_reducible repeat (first | refine bN ?_ _ | refine bD ?_ | refine bA ?_ _)); exact BKgR.out))
   have n1_ := A0_.mk hi_.1
   have n2_ := A0_.mk ((hk_.2 gi (bL (g := gi) (o := .cells #[.int .i64 kd, .string (⟨#[]⟩ : ByteArray), .bool false, .string (⟨#[]⟩ : ByteArray), .int .i64 0, .slice none 0 0] 24 (0, 0)) (by (with_reducible repeat (first | refine bN ?_ _ | refine bD ?_ | refine bA ?_ _)); exact BKgi.out)) NBgi_gr.out (by simp)).trans (by (with_reducible repeat (first | refine bN ?_ _ | refine bD ?_ | refine bA ?_ _)); exact BKgi.out))
   have n3_ := A0_.mk hb2_
   clear hcz7 hfz7 hcz8 hfz8 hcz9 hfz9 hcz10 hfz10 hcz11 hfz11 hcz12 hfz12
   clear BKgR
   clear BKgr
   clear BKgi
   clear HB
   have BKgR := n0_; clear n0_
   have BKgr := n1_; clear n1_
   have BKgi := n2_; clear n2_
   have HB := n3_; clear n3_
   clear hi_ hb2_ hk_
   have hcz13 : v6.cell? ⟨gi, 0, none⟩ = some (.int .i64 kd) := (bC BKgi.out 0).trans rfl
   have hfz13 := bF BKgi.out 0
   have hcz14 : v6.cell? ⟨gi, 1, none⟩ = some (.string (⟨#[]⟩ : ByteArray)) := (bC BKgi.out 1).trans rfl
   have hfz14 := bF BKgi.out 1
   have hcz15 : v6.cell? ⟨gi, 2, none⟩ = some (.bool false) := (bC BKgi.out 2).trans rfl
   have hfz15 := bF BKgi.out 2
   have hcz16 : v6.cell? ⟨gi, 3, none⟩ = some (.string (⟨#[]⟩ : ByteArray)) := (bC BKgi.out 3).trans rfl
   have hfz16 := bF BKgi.out 3
   have hcz17 : v6.cell? ⟨gi, 4, none⟩ = some (.int .i64 0) := (bC BKgi.out 4).trans rfl
   have hfz17 := bF BKgi.out 4
   have hcz18 : v6.cell? ⟨gi, 5, none⟩ = some (.slice none 0 0) := (bC BKgi.out 5).trans rfl
   have hfz18 := bF BKgi.out 5
   go_wp2_with ((with_reducible refine gS (t := 3) (p := 35) rfl ?_); refine sE (t := 3) (p := 35) (v := ?vo_v16) (w1 := (v6.setCell ⟨gi, 4, none⟩ (.int .i64 (wrap64 (b * 256))))) ?hg ?ho ?hn ?hr ?_; (case ho => rfl); (case hg => rfl); (case hn => rfl); (case hr => first | (go_simp; done) | (go_simp; rfl)); intro v16 hw; have n0_ := A0_.mk (by rw [hw]; (with_reducible repeat (first | refine bN ?_ _ | refine bD ?_ | refine bA ?_ _)); refine bR ?_ NBgR_gi.out _; (with_reducible repeat (first | refine bN ?_ _ | refine bD ?_ | refine bA ?_ _)); exact BKgR.out : v16.heap[gR]? = some (.cells #[.int .i64 0, .string (⟨#[]⟩ : ByteArray), .bool false, .string (⟨#[]⟩ : ByteArray), .int .i64 0, .slice none 0 0] 24 (0, 0))); have n1_ := A0_.mk (by rw [hw]; (with_reducible repeat (first | refine bN ?_ _ | refine bD ?_ | refine bA ?_ _)); refine bR ?_ NBgr_gi.out _; (with_reducible repeat (first | refine bN ?_ _ | refine bD ?_ | refine bA ?_ _)); exact BKgr.out : v16.heap[gr]? = some (.cells #[.string s2] 74 (0, 0))); have n2_ := A0_.mk (by rw [hw]; (with_reducible repeat (first | refine bN ?_ _ | refine bD ?_ | refine bA ?_ _)); refine bP (cs := #[.int .i64 kd, .string (⟨#[]⟩ : ByteArray), .bool false, .string (⟨#[]⟩ : ByteArray), .int .i64 0, .slice none 0 0]) ?_ 4 _ rfl; (with_reducible repeat (first | refine bN ?_ _ | refine bD ?_ | refine bA ?_ _)); exact BKgi.out : v16.heap[gi]? = some (.cells #[.int .i64 kd, .string (⟨#[]⟩ : ByteArray), .bool false, .string (⟨#[]⟩ : ByteArray), .int .i64 (wrap64 (b * 256)), .slice none 0 0] 24 (0, 0))); have n3_ := A0_.mk (by rw [hw]; repeat (first | (with_reducible first | exact HB.out | apply wA | apply pN | apply wD | refine wS ?_ GEgR.out | refine wS ?_ GEgr.out | refine wS ?_ GEgi.out) | exact HB.out) : Below w.heap.size w v16); clear hcz13 hfz13 hcz14 hfz14 hcz15 hfz15 hcz16 hfz16 hcz17 hfz17 hcz18 hfz18; clear BKgR; clear BKgr; clear BKgi; clear HB; have BKgR := n0_; clear n0_; have BKgr := n1_; clear n1_; have BKgi := n2_; clear n2_; have HB := n3_; clear n3_; clear hw; have hcz19 : v16.cell? ⟨gi, 0, none⟩ = some (.int .i64 kd) := (bC BKgi.out 0).trans rfl; have hfz19 := bF BKgi.out 0; have hcz20 : v16.cell? ⟨gi, 1, none⟩ = some (.string (⟨#[]⟩ : ByteArray)) := (bC BKgi.out 1).trans rfl; have hfz20 := bF BKgi.out 1; have hcz21 : v16.cell? ⟨gi, 2, none⟩ = some (.bool false) := (bC BKgi.out 2).trans rfl; have hfz21 := bF BKgi.out 2; have hcz22 : v16.cell? ⟨gi, 3, none⟩ = some (.string (⟨#[]⟩ : ByteArray)) := (bC BKgi.out 3).trans rfl; have hfz22 := bF BKgi.out 3; have hcz23 : v16.cell? ⟨gi, 4, none⟩ = some (.int .i64 (wrap64 (b * 256))) := (bC BKgi.out 4).trans rfl; have hfz23 := bF BKgi.out 4; have hcz24 : v16.cell? ⟨gi, 5, none⟩ = some (.slice none 0 0) := (bC BKgi.out 5).trans rfl; have hfz24 := bF BKgi.out 5)
   refine start_ (n := 7) (S := (fun w' => w'.cell? ⟨gi, 4, none⟩ = some (.int .i64 (wrap64 (b * 256))))) (ds := [6]) #[false, false, false, false, false, false, false] (by kernel_rfl) rfl rfl ((bC BKgi.out 4).trans rfl) (fun hHeld => ?_)
   refine pure_ (i := 0) (N := (some 36)) (v := ?_) (a' := ?_) #[true, false, false, false, false, false, false] rfl rfl (by kernel_rfl) (fun _ _ _ h => h) (Or.inl ⟨by rfl, ?_⟩) ?_ ?_
   rotate_left
   ·intro w'
    go_simp
    with_reducible rfl
   rotate_left
   ·simp only [Act.put, List.setIfInBounds_toArray, List.set_cons_zero, List.set_cons_succ]
    rfl
   refine take_ (i := 1) (N := (some 37)) (v := ?_) (a' := ?_) #[true, true, false, false, false, false, false] rfl rfl (by kernel_rfl) (fun _ _ _ h => h) (Or.inl ⟨by rfl, ?_⟩) hHeld ?_ ?_
   rotate_left
   ·intro w' hS_
    go_simp
    with_reducible rfl
   rotate_left
   ·simp only [Act.put, List.setIfInBounds_toArray, List.set_cons_zero, List.set_cons_succ]
    rfl
   refine pure_ (i := 2) (N := (some 38)) (v := ?_) (a' := ?_) #[true, true, true, false, false, false, false] rfl rfl (by kernel_rfl) (fun _ _ _ h => h) (Or.inl ⟨by rfl, ?_⟩) ?_ ?_
   rotate_left
   ·intro w'
    go_simp
    with_reducible rfl
   rotate_left
   ·simp only [Act.put, List.setIfInBounds_toArray, List.set_cons_zero, List.set_cons_succ]
    rfl
   refine one_ (i := 3) (N := some 39) #[true, true, true, true, false, false, false] rfl rfl (by kernel_rfl) (by decide) (fun K hK => ?_)
   refine goes_ Tryd.func39 (by kernel_rfl) rfl #[.pointer (some ⟨gr, 0, none⟩)] (by rfl) rfl rfl (by (try simp only [List.map_toArray, List.map_cons, List.map_nil]); first | done | rfl) ?_
   with_reducible refine (PNor.n9number.calls gr s2 c s3 w _ (is74 (by (with_reducible repeat (first | refine bN ?_ _ | refine bD ?_ | refine bA ?_ _)); exact BKgr.out) GEgr.out) (by repeat (first | (with_reducible first | exact HB.out | apply wA | apply pN | apply wD | refine wS ?_ GEgR.out | refine wS ?_ GEgr.out | refine wS ?_ GEgi.out) | exact HB.out)) H3.out).mono ?_
   rintro e v17 ⟨rfl, hi_, hb2_, hk_⟩
   have n0_ := A0_.mk ((hk_.2 gR (bL (g := gR) (o := .cells #[.int .i64 0, .string (⟨#[]⟩ : ByteArray), .bool false, .string (⟨#[]⟩ : ByteArray), .int .i64 0, .slice none 0 0] 24 (0, 0)) (by (with_reducible repeat (first | refine bN ?_ _ | refine bD ?_ | refine bA ?_ _)); exact BKgR.out)) NBgR_gr.out (by simp)).trans (by (with_reducible repeat (first | refine bN ?_ _ | refine bD ?_ | refine bA ?_ _)); exact BKgR.out))
   have n1_ := A0_.mk hi_.1
   have n2_ := A0_.mk ((hk_.2 gi (bL (g := gi) (o := .cells #[.int .i64 kd, .string (⟨#[]⟩ : ByteArray), .bool false, .string (⟨#[]⟩ : ByteArray), .int .i64 (wrap64 (b * 256)), .slice none 0 0] 24 (0, 0)) (by (with_reducible repeat (first | refine bN ?_ _ | refine bD ?_ | refine bA ?_ _)); exact BKgi.out)) NBgi_gr.out (by simp)).trans (by (with_reducible repeat (first | refine bN ?_ _ | refine bD ?_ | refine bA ?_ _)); exact BKgi.out))
   have n3_ := A0_.mk hb2_
   clear hcz19 hfz19 hcz20 hfz20 hcz21 hfz21 hcz22 hfz22 hcz23 hfz23 hcz24 hfz24
   clear BKgR
   clear BKgr
   clear BKgi
   clear HB
   have BKgR := n0_; clear n0_
   have BKgr := n1_; clear n1_
   have BKgi := n2_; clear n2_
   have HB := n3_; clear n3_
   clear hi_ hb2_ hk_
   have hcz25 : v17.cell? ⟨gi, 0, none⟩ = some (.int .i64 kd) := (bC BKgi.out 0).trans rfl
   have hfz25 := bF BKgi.out 0
   have hcz26 : v17.cell? ⟨gi, 1, none⟩ = some (.string (⟨#[]⟩ : ByteArray)) := (bC BKgi.out 1).trans rfl
   have hfz26 := bF BKgi.out 1
   have hcz27 : v17.cell? ⟨gi, 2, none⟩ = some (.bool false) := (bC BKgi.out 2).trans rfl
   have hfz27 := bF BKgi.out 2
   have hcz28 : v17.cell? ⟨gi, 3, none⟩ = some (.string (⟨#[]⟩ : ByteArray)) := (bC BKgi.out 3).trans rfl
   have hfz28 := bF BKgi.out 3
   have hcz29 : v17.cell? ⟨gi, 4, none⟩ = some (.int .i64 (wrap64 (b * 256))) := (bC BKgi.out 4).trans rfl
   have hfz29 := bF BKgi.out 4
   have hcz30 : v17.cell? ⟨gi, 5, none⟩ = some (.slice none 0 0) := (bC BKgi.out 5).trans rfl
   have hfz30 := bF BKgi.out 5
   refine ⟨_, rfl, ?_⟩
   refine hK.out _ _ ((bC BKgi.out 4).trans rfl) (fun hHeld => ?_)
   clear hK K
   refine norm_ (a' := ?_) ?_ ?_
   rotate_left
   ·show Act.put _ (some 39) _ = _
    simp only [Act.put, List.setIfInBounds_toArray, List.set_cons_zero, List.set_cons_succ]
    rfl
   refine pure_ (i := 4) (N := (some 40)) (v := ?_) (a' := ?_) #[true, true, true, true, true, false, false] rfl rfl (by kernel_rfl) (fun _ _ _ h => h) (Or.inl ⟨by rfl, ?_⟩) ?_ ?_
   rotate_left
   ·intro w'
    go_simp
    with_reducible rfl
   rotate_left
   ·simp only [Act.put, List.setIfInBounds_toArray, List.set_cons_zero, List.set_cons_succ]
    rfl
   refine pure_ (i := 5) (N := (some 41)) (v := ?_) (a' := ?_) #[true, true, true, true, true, true, false] rfl rfl (by kernel_rfl) (fun _ _ _ h => h) (Or.inl ⟨by rfl, ?_⟩) ?_ ?_
   rotate_left
   ·intro w'
    go_simp
    with_reducible rfl
   rotate_left
   ·simp only [Act.put, List.setIfInBounds_toArray, List.set_cons_zero, List.set_cons_succ]
    rfl
   refine last_ (i := 6) (N := none) #[true, true, true, true, true, true, true] rfl rfl (by kernel_rfl) (by decide) (fun K hK => ?_)
   refine skip_ (w1 := ?_) (by rfl) rfl ?_ ?_
   rotate_left
   ·go_simp
    rfl
   refine hK.out _ _ ?_
   clear hK K
   refine done_ (by kernel_rfl) ?_
   obtain ⟨v18, hW_⟩ : ∃ W_, W_ = v17.setCell ⟨gi, 4, none⟩ (.int .i64 (Go.bits .or .i64 (wrap64 (b * 256)) c)) := ⟨_, rfl⟩
   have n0_ := A0_.mk (by rw [hW_]; exact bR BKgR.out NBgR_gi.out _ : v18.heap[gR]? = some (.cells #[.int .i64 0, .string (⟨#[]⟩ : ByteArray), .bool false, .string (⟨#[]⟩ : ByteArray), .int .i64 0, .slice none 0 0] 24 (0, 0)))
   have n1_ := A0_.mk (by rw [hW_]; exact bR BKgr.out NBgr_gi.out _ : v18.heap[gr]? = some (.cells #[.string s3] 74 (0, 0)))
   have n2_ := A0_.mk (by rw [hW_]; exact bP (cs := #[.int .i64 kd, .string (⟨#[]⟩ : ByteArray), .bool false, .string (⟨#[]⟩ : ByteArray), .int .i64 (wrap64 (b * 256)), .slice none 0 0]) BKgi.out 4 _ rfl : v18.heap[gi]? = some (.cells #[.int .i64 kd, .string (⟨#[]⟩ : ByteArray), .bool false, .string (⟨#[]⟩ : ByteArray), .int .i64 (Go.bits .or .i64 (wrap64 (b * 256)) c), .slice none 0 0] 24 (0, 0)))
   have n3_ := A0_.mk (by rw [hW_]; exact wS HB.out GEgi.out : Below w.heap.size w v18)
   rw [← hW_]
   clear hcz25 hfz25 hcz26 hfz26 hcz27 hfz27 hcz28 hfz28 hcz29 hfz29 hcz30 hfz30
   clear BKgR
   clear BKgr
   clear BKgi
   clear HB
   have BKgR := n0_; clear n0_
   have BKgr := n1_; clear n1_
   have BKgi := n2_; clear n2_
   have HB := n3_; clear n3_
   clear hW_
   have hcz31 : v18.cell? ⟨gi, 0, none⟩ = some (.int .i64 kd) := (bC BKgi.out 0).trans rfl
   have hfz31 := bF BKgi.out 0
   have hcz32 : v18.cell? ⟨gi, 1, none⟩ = some (.string (⟨#[]⟩ : ByteArray)) := (bC BKgi.out 1).trans rfl
   have hfz32 := bF BKgi.out 1
   have hcz33 : v18.cell? ⟨gi, 2, none⟩ = some (.bool false) := (bC BKgi.out 2).trans rfl
   have hfz33 := bF BKgi.out 2
   have hcz34 : v18.cell? ⟨gi, 3, none⟩ = some (.string (⟨#[]⟩ : ByteArray)) := (bC BKgi.out 3).trans rfl
   have hfz34 := bF BKgi.out 3
   have hcz35 : v18.cell? ⟨gi, 4, none⟩ = some (.int .i64 (Go.bits .or .i64 (wrap64 (b * 256)) c)) := (bC BKgi.out 4).trans rfl
   have hfz35 := bF BKgi.out 4
   have hcz36 : v18.cell? ⟨gi, 5, none⟩ = some (.slice none 0 0) := (bC BKgi.out 5).trans rfl
   have hfz36 := bF BKgi.out 5
   go_wp2_with fail
   with_reducible refine (PNor.n9number.calls gr s3 d s4 w _ (is74 (by (with_reducible repeat (first | refine bN ?_ _ | refine bD ?_ | refine bA ?_ _)); exact BKgr.out) GEgr.out) (by repeat (first | (with_reducible first | exact HB.out | apply wA | apply pN | apply wD | refine wS ?_ GEgR.out | refine wS ?_ GEgr.out | refine wS ?_ GEgi.out) | exact HB.out)) H4.out).mono ?_
   rintro e v19 ⟨rfl, hi_, hb2_, hk_⟩
   have n0_ := A0_.mk ((hk_.2 gR (bL (g := gR) (o := .cells #[.int .i64 0, .string (⟨#[]⟩ : ByteArray), .bool false, .string (⟨#[]⟩ : ByteArray), .int .i64 0, .slice none 0 0] 24 (0, 0)) (by (with_reducible repeat (first | refine bN ?_ _ | refine bD ?_ | refine bA ?_ _)); exact BKgR.out)) NBgR_gr.out (by simp)).trans (by (with_reducible repeat (first | refine bN ?_ _ | refine bD ?_ | refine bA ?_ _)); exact BKgR.out))
   have n1_ := A0_.mk hi_.1
   have n2_ := A0_.mk ((hk_.2 gi (bL (g := gi) (o := .cells #[.int .i64 kd, .string (⟨#[]⟩ : ByteArray), .bool false, .string (⟨#[]⟩ : ByteArray), .int .i64 (Go.bits .or .i64 (wrap64 (b * 256)) c), .slice none 0 0] 24 (0, 0)) (by (with_reducible repeat (first | refine bN ?_ _ | refine bD ?_ | refine bA ?_ _)); exact BKgi.out)) NBgi_gr.out (by simp)).trans (by (with_reducible repeat (first | refine bN ?_ _ | refine bD ?_ | refine bA ?_ _)); exact BKgi.out))
   have n3_ := A0_.mk hb2_
   clear hcz31 hfz31 hcz32 hfz32 hcz33 hfz33 hcz34 hfz34 hcz35 hfz35 hcz36 hfz36
   clear BKgR
   clear BKgr
   clear BKgi
   clear HB
   have BKgR := n0_; clear n0_
   have BKgr := n1_; clear n1_
   have BKgi := n2_; clear n2_
   have HB := n3_; clear n3_
   clear hi_ hb2_ hk_
   have hcz37 : v19.cell? ⟨gi, 0, none⟩ = some (.int .i64 kd) := (bC BKgi.out 0).trans rfl
   have hfz37 := bF BKgi.out 0
   have hcz38 : v19.cell? ⟨gi, 1, none⟩ = some (.string (⟨#[]⟩ : ByteArray)) := (bC BKgi.out 1).trans rfl
   have hfz38 := bF BKgi.out 1
   have hcz39 : v19.cell? ⟨gi, 2, none⟩ = some (.bool false) := (bC BKgi.out 2).trans rfl
   have hfz39 := bF BKgi.out 2
   have hcz40 : v19.cell? ⟨gi, 3, none⟩ = some (.string (⟨#[]⟩ : ByteArray)) := (bC BKgi.out 3).trans rfl
   have hfz40 := bF BKgi.out 3
   have hcz41 : v19.cell? ⟨gi, 4, none⟩ = some (.int .i64 (Go.bits .or .i64 (wrap64 (b * 256)) c)) := (bC BKgi.out 4).trans rfl
   have hfz41 := bF BKgi.out 4
   have hcz42 : v19.cell? ⟨gi, 5, none⟩ = some (.slice none 0 0) := (bC BKgi.out 5).trans rfl
   have hfz42 := bF BKgi.out 5
   go_wp2_with ((with_reducible refine gS (t := 4) (p := 45) rfl ?_); refine sE (t := 4) (p := 45) (v := ?vo_v20) (w1 := (v19.setCell ⟨gi, 2, none⟩ (.bool true))) ?hg ?ho ?hn ?hr ?_; (case ho => rfl); (case hg => rfl); (case hn => rfl); (case hr => first | (go_simp; done) | (go_simp; rfl)); intro v20 hw; have n0_ := A0_.mk (by rw [hw]; (with_reducible repeat (first | refine bN ?_ _ | refine bD ?_ | refine bA ?_ _)); refine bR ?_ NBgR_gi.out _; (with_reducible repeat (first | refine bN ?_ _ | refine bD ?_ | refine bA ?_ _)); exact BKgR.out : v20.heap[gR]? = some (.cells #[.int .i64 0, .string (⟨#[]⟩ : ByteArray), .bool false, .string (⟨#[]⟩ : ByteArray), .int .i64 0, .slice none 0 0] 24 (0, 0))); have n1_ := A0_.mk (by rw [hw]; (with_reducible repeat (first | refine bN ?_ _ | refine bD ?_ | refine bA ?_ _)); refine bR ?_ NBgr_gi.out _; (with_reducible repeat (first | refine bN ?_ _ | refine bD ?_ | refine bA ?_ _)); exact BKgr.out : v20.heap[gr]? = some (.cells #[.string s4] 74 (0, 0))); have n2_ := A0_.mk (by rw [hw]; (with_reducible repeat (first | refine bN ?_ _ | refine bD ?_ | refine bA ?_ _)); refine bP (cs := #[.int .i64 kd, .string (⟨#[]⟩ : ByteArray), .bool false, .string (⟨#[]⟩ : ByteArray), .int .i64 (Go.bits .or .i64 (wrap64 (b * 256)) c), .slice none 0 0]) ?_ 2 _ rfl; (with_reducible repeat (first | refine bN ?_ _ | refine bD ?_ | refine bA ?_ _)); exact BKgi.out : v20.heap[gi]? = some (.cells #[.int .i64 kd, .string (⟨#[]⟩ : ByteArray), .bool true, .string (⟨#[]⟩ : ByteArray), .int .i64 (Go.bits .or .i64 (wrap64 (b * 256)) c), .slice none 0 0] 24 (0, 0))); have n3_ := A0_.mk (by rw [hw]; repeat (first | (with_reducible first | exact HB.out | apply wA | apply pN | apply wD | refine wS ?_ GEgR.out | refine wS ?_ GEgr.out | refine wS ?_ GEgi.out) | exact HB.out) : Below w.heap.size w v20); clear hcz37 hfz37 hcz38 hfz38 hcz39 hfz39 hcz40 hfz40 hcz41 hfz41 hcz42 hfz42; clear BKgR; clear BKgr; clear BKgi; clear HB; have BKgR := n0_; clear n0_; have BKgr := n1_; clear n1_; have BKgi := n2_; clear n2_; have HB := n3_; clear n3_; clear hw; have hcz43 : v20.cell? ⟨gi, 0, none⟩ = some (.int .i64 kd) := (bC BKgi.out 0).trans rfl; have hfz43 := bF BKgi.out 0; have hcz44 : v20.cell? ⟨gi, 1, none⟩ = some (.string (⟨#[]⟩ : ByteArray)) := (bC BKgi.out 1).trans rfl; have hfz44 := bF BKgi.out 1; have hcz45 : v20.cell? ⟨gi, 2, none⟩ = some (.bool true) := (bC BKgi.out 2).trans rfl; have hfz45 := bF BKgi.out 2; have hcz46 : v20.cell? ⟨gi, 3, none⟩ = some (.string (⟨#[]⟩ : ByteArray)) := (bC BKgi.out 3).trans rfl; have hfz46 := bF BKgi.out 3; have hcz47 : v20.cell? ⟨gi, 4, none⟩ = some (.int .i64 (Go.bits .or .i64 (wrap64 (b * 256)) c)) := (bC BKgi.out 4).trans rfl; have hfz47 := bF BKgi.out 4; have hcz48 : v20.cell? ⟨gi, 5, none⟩ = some (.slice none 0 0) := (bC BKgi.out 5).trans rfl; have hfz48 := bF BKgi.out 5)
   with_reducible refine (PNor.n9number.calls gr s4 m s5 w _ (is74 (by (with_reducible repeat (first | refine bN ?_ _ | refine bD ?_ | refine bA ?_ _)); exact BKgr.out) GEgr.out) (by repeat (first | (with_reducible first | exact HB.out | apply wA | apply pN | apply wD | refine wS ?_ GEgR.out | refine wS ?_ GEgr.out | refine wS ?_ GEgi.out) | exact HB.out)) H5.out).mono ?_
   rintro e v21 ⟨rfl, hi_, hb2_, hk_⟩
   have n0_ := A0_.mk ((hk_.2 gR (bL (g := gR) (o := .cells #[.int .i64 0, .string (⟨#[]⟩ : ByteArray), .bool false, .string (⟨#[]⟩ : ByteArray), .int .i64 0, .slice none 0 0] 24 (0, 0)) (by (with_reducible repeat (first | refine bN ?_ _ | refine bD ?_ | refine bA ?_ _)); exact BKgR.out)) NBgR_gr.out (by simp)).trans (by (with_reducible repeat (first | refine bN ?_ _ | refine bD ?_ | refine bA ?_ _)); exact BKgR.out))
   have n1_ := A0_.mk hi_.1
   have n2_ := A0_.mk ((hk_.2 gi (bL (g := gi) (o := .cells #[.int .i64 kd, .string (⟨#[]⟩ : ByteArray), .bool true, .string (⟨#[]⟩ : ByteArray), .int .i64 (Go.bits .or .i64 (wrap64 (b * 256)) c), .slice none 0 0] 24 (0, 0)) (by (with_reducible repeat (first | refine bN ?_ _ | refine bD ?_ | refine bA ?_ _)); exact BKgi.out)) NBgi_gr.out (by simp)).trans (by (with_reducible repeat (first | refine bN ?_ _ | refine bD ?_ | refine bA ?_ _)); exact BKgi.out))
   have n3_ := A0_.mk hb2_
   clear hcz43 hfz43 hcz44 hfz44 hcz45 hfz45 hcz46 hfz46 hcz47 hfz47 hcz48 hfz48
   clear BKgR
   clear BKgr
   clear BKgi
   clear HB
   have BKgR := n0_; clear n0_
   have BKgr := n1_; clear n1_
   have BKgi := n2_; clear n2_
   have HB := n3_; clear n3_
   clear hi_ hb2_ hk_
   have hcz49 : v21.cell? ⟨gi, 0, none⟩ = some (.int .i64 kd) := (bC BKgi.out 0).trans rfl
   have hfz49 := bF BKgi.out 0
   have hcz50 : v21.cell? ⟨gi, 1, none⟩ = some (.string (⟨#[]⟩ : ByteArray)) := (bC BKgi.out 1).trans rfl
   have hfz50 := bF BKgi.out 1
   have hcz51 : v21.cell? ⟨gi, 2, none⟩ = some (.bool true) := (bC BKgi.out 2).trans rfl
   have hfz51 := bF BKgi.out 2
   have hcz52 : v21.cell? ⟨gi, 3, none⟩ = some (.string (⟨#[]⟩ : ByteArray)) := (bC BKgi.out 3).trans rfl
   have hfz52 := bF BKgi.out 3
   have hcz53 : v21.cell? ⟨gi, 4, none⟩ = some (.int .i64 (Go.bits .or .i64 (wrap64 (b * 256)) c)) := (bC BKgi.out 4).trans rfl
   have hfz53 := bF BKgi.out 4
   have hcz54 : v21.cell? ⟨gi, 5, none⟩ = some (.slice none 0 0) := (bC BKgi.out 5).trans rfl
   have hfz54 := bF BKgi.out 5
   go_wp2_with fail
   with_reducible refine (PNor.n9take.calls gr s5 m v s6 w _ (is74 (by (with_reducible repeat (first | refine bN ?_ _ | refine bD ?_ | refine bA ?_ _)); exact BKgr.out) GEgr.out) (by repeat (first | (with_reducible first | exact HB.out | apply wA | apply pN | apply wD | refine wS ?_ GEgR.out | refine wS ?_ GEgr.out | refine wS ?_ GEgi.out) | exact HB.out)) H6.out).mono ?_
   rintro e v22 ⟨rfl, hi_, hb2_, hk_⟩
   have n0_ := A0_.mk ((hk_.2 gR (bL (g := gR) (o := .cells #[.int .i64 0, .string (⟨#[]⟩ : ByteArray), .bool false, .string (⟨#[]⟩ : ByteArray), .int .i64 0, .slice none 0 0] 24 (0, 0)) (by (with_reducible repeat (first | refine bN ?_ _ | refine bD ?_ | refine bA ?_ _)); exact BKgR.out)) NBgR_gr.out (by simp)).trans (by (with_reducible repeat (first | refine bN ?_ _ | refine bD ?_ | refine bA ?_ _)); exact BKgR.out))
   have n1_ := A0_.mk hi_.1
   have n2_ := A0_.mk ((hk_.2 gi (bL (g := gi) (o := .cells #[.int .i64 kd, .string (⟨#[]⟩ : ByteArray), .bool true, .string (⟨#[]⟩ : ByteArray), .int .i64 (Go.bits .or .i64 (wrap64 (b * 256)) c), .slice none 0 0] 24 (0, 0)) (by (with_reducible repeat (first | refine bN ?_ _ | refine bD ?_ | refine bA ?_ _)); exact BKgi.out)) NBgi_gr.out (by simp)).trans (by (with_reducible repeat (first | refine bN ?_ _ | refine bD ?_ | refine bA ?_ _)); exact BKgi.out))
   have n3_ := A0_.mk hb2_
   clear hcz49 hfz49 hcz50 hfz50 hcz51 hfz51 hcz52 hfz52 hcz53 hfz53 hcz54 hfz54
   clear BKgR
   clear BKgr
   clear BKgi
   clear HB
   have BKgR := n0_; clear n0_
   have BKgr := n1_; clear n1_
   have BKgi := n2_; clear n2_
   have HB := n3_; clear n3_
   clear hi_ hb2_ hk_
   have hcz55 : v22.cell? ⟨gi, 0, none⟩ = some (.int .i64 kd) := (bC BKgi.out 0).trans rfl
   have hfz55 := bF BKgi.out 0
   have hcz56 : v22.cell? ⟨gi, 1, none⟩ = some (.string (⟨#[]⟩ : ByteArray)) := (bC BKgi.out 1).trans rfl
   have hfz56 := bF BKgi.out 1
   have hcz57 : v22.cell? ⟨gi, 2, none⟩ = some (.bool true) := (bC BKgi.out 2).trans rfl
   have hfz57 := bF BKgi.out 2
   have hcz58 : v22.cell? ⟨gi, 3, none⟩ = some (.string (⟨#[]⟩ : ByteArray)) := (bC BKgi.out 3).trans rfl
   have hfz58 := bF BKgi.out 3
   have hcz59 : v22.cell? ⟨gi, 4, none⟩ = some (.int .i64 (Go.bits .or .i64 (wrap64 (b * 256)) c)) := (bC BKgi.out 4).trans rfl
   have hfz59 := bF BKgi.out 4
   have hcz60 : v22.cell? ⟨gi, 5, none⟩ = some (.slice none 0 0) := (bC BKgi.out 5).trans rfl
   have hfz60 := bF BKgi.out 5
   go_wp2_with ((with_reducible refine gS (t := 9) (p := 52) rfl ?_); refine sE (t := 9) (p := 52) (v := ?vo_v23) (w1 := (v22.setCell ⟨gi, 3, none⟩ (.string v))) ?hg ?ho ?hn ?hr ?_; (case ho => rfl); (case hg => rfl); (case hn => rfl); (case hr => first | (go_simp; done) | (go_simp; rfl)); intro v23 hw; have n0_ := A0_.mk (by rw [hw]; (with_reducible repeat (first | refine bN ?_ _ | refine bD ?_ | refine bA ?_ _)); refine bR ?_ NBgR_gi.out _; (with_reducible repeat (first | refine bN ?_ _ | refine bD ?_ | refine bA ?_ _)); exact BKgR.out : v23.heap[gR]? = some (.cells #[.int .i64 0, .string (⟨#[]⟩ : ByteArray), .bool false, .string (⟨#[]⟩ : ByteArray), .int .i64 0, .slice none 0 0] 24 (0, 0))); have n1_ := A0_.mk (by rw [hw]; (with_reducible repeat (first | refine bN ?_ _ | refine bD ?_ | refine bA ?_ _)); refine bR ?_ NBgr_gi.out _; (with_reducible repeat (first | refine bN ?_ _ | refine bD ?_ | refine bA ?_ _)); exact BKgr.out : v23.heap[gr]? = some (.cells #[.string s6] 74 (0, 0))); have n2_ := A0_.mk (by rw [hw]; (with_reducible repeat (first | refine bN ?_ _ | refine bD ?_ | refine bA ?_ _)); refine bP (cs := #[.int .i64 kd, .string (⟨#[]⟩ : ByteArray), .bool true, .string (⟨#[]⟩ : ByteArray), .int .i64 (Go.bits .or .i64 (wrap64 (b * 256)) c), .slice none 0 0]) ?_ 3 _ rfl; (with_reducible repeat (first | refine bN ?_ _ | refine bD ?_ | refine bA ?_ _)); exact BKgi.out : v23.heap[gi]? = some (.cells #[.int .i64 kd, .string (⟨#[]⟩ : ByteArray), .bool true, .string v, .int .i64 (Go.bits .or .i64 (wrap64 (b * 256)) c), .slice none 0 0] 24 (0, 0))); have n3_ := A0_.mk (by rw [hw]; repeat (first | (with_reducible first | exact HB.out | apply wA | apply pN | apply wD | refine wS ?_ GEgR.out | refine wS ?_ GEgr.out | refine wS ?_ GEgi.out) | exact HB.out) : Below w.heap.size w v23); clear hcz55 hfz55 hcz56 hfz56 hcz57 hfz57 hcz58 hfz58 hcz59 hfz59 hcz60 hfz60; clear BKgR; clear BKgr; clear BKgi; clear HB; have BKgR := n0_; clear n0_; have BKgr := n1_; clear n1_; have BKgi := n2_; clear n2_; have HB := n3_; clear n3_; clear hw; have hcz61 : v23.cell? ⟨gi, 0, none⟩ = some (.int .i64 kd) := (bC BKgi.out 0).trans rfl; have hfz61 := bF BKgi.out 0; have hcz62 : v23.cell? ⟨gi, 1, none⟩ = some (.string (⟨#[]⟩ : ByteArray)) := (bC BKgi.out 1).trans rfl; have hfz62 := bF BKgi.out 1; have hcz63 : v23.cell? ⟨gi, 2, none⟩ = some (.bool true) := (bC BKgi.out 2).trans rfl; have hfz63 := bF BKgi.out 2; have hcz64 : v23.cell? ⟨gi, 3, none⟩ = some (.string v) := (bC BKgi.out 3).trans rfl; have hfz64 := bF BKgi.out 3; have hcz65 : v23.cell? ⟨gi, 4, none⟩ = some (.int .i64 (Go.bits .or .i64 (wrap64 (b * 256)) c)) := (bC BKgi.out 4).trans rfl; have hfz65 := bF BKgi.out 4; have hcz66 : v23.cell? ⟨gi, 5, none⟩ = some (.slice none 0 0) := (bC BKgi.out 5).trans rfl; have hfz66 := bF BKgi.out 5)
   go_meet
   case rel => exact ⟨(⟨#[]⟩ : ByteArray), true, v, (Go.bits .or .i64 (wrap64 (b * 256)) c), s6, l, s9, ⟨H9.out⟩, ⟨HE.out⟩, ⟨BKgR.out⟩, ⟨BKgr.out⟩, ⟨BKgi.out⟩, ⟨HB.out⟩⟩
  ·rw [if_neg k4] at h
   obtain ⟨⟨l, s9⟩, h_, h⟩ := Option.bind_eq_some_iff.1 h
   have H9 := Lib.hid h_; clear h_
   dsimp only at h
   have HE := Lib.hid h; clear h
   have f4 : (d == 1) = false := beq_eq_false_iff_ne.2 k4
   clear k4
   first | rw [f1] | skip
   go_wp2_with fail
   with_reducible refine (PNor.n9number.calls gr s1 b s2 w _ (is74 (by (with_reducible repeat (first | refine bN ?_ _ | refine bD ?_ | refine bA ?_ _)); exact BKgr.out) GEgr.out) (by repeat (first | (with_reducible first | exact HB.out | apply wA | apply pN | apply wD | refine wS ?_ GEgR.out | refine wS ?_ GEgr.out | refine wS ?_ GEgi.out) | exact HB.out)) H2.out).mono ?_
   rintro e v6 ⟨rfl, hi_, hb2_, hk_⟩
   have n0_ := A0_.mk ((hk_.2 gR (bL (g := gR) (o := .cells #[.int .i64 0, .string (⟨#[]⟩ : ByteArray), .bool false, .string (⟨#[]⟩ : ByteArray), .int .i64 0, .slice none 0 0] 24 (0, 0)) (by (with_reducible repeat (first | refine bN ?_ _ | refine bD ?_ | refine bA ?_ _)); exact BKgR.out)) NBgR_gr.out (by simp)).trans (by (with_reducible repeat (first | refine bN ?_ _ | refine bD ?_ | refine bA ?_ _)); exact BKgR.out))
   have n1_ := A0_.mk hi_.1
   have n2_ := A0_.mk ((hk_.2 gi (bL (g := gi) (o := .cells #[.int .i64 kd, .string (⟨#[]⟩ : ByteArray), .bool false, .string (⟨#[]⟩ : ByteArray), .int .i64 0, .slice none 0 0] 24 (0, 0)) (by (with_reducible repeat (first | refine bN ?_ _ | refine bD ?_ | refine bA ?_ _)); exact BKgi.out)) NBgi_gr.out (by simp)).trans (by (with_reducible repeat (first | refine bN ?_ _ | refine bD ?_ | refine bA ?_ _)); exact BKgi.out))
   have n3_ := A0_.mk hb2_
   clear hcz7 hfz7 hcz8 hfz8 hcz9 hfz9 hcz10 hfz10 hcz11 hfz11 hcz12 hfz12
   clear BKgR
   clear BKgr
   clear BKgi
   clear HB
   have BKgR := n0_; clear n0_
   have BKgr := n1_; clear n1_
   have BKgi := n2_; clear n2_
   have HB := n3_; clear n3_
   clear hi_ hb2_ hk_
   have hcz13 : v6.cell? ⟨gi, 0, none⟩ = some (.int .i64 kd) := (bC BKgi.out 0).trans rfl
   have hfz13 := bF BKgi.out 0
   have hcz14 : v6.cell? ⟨gi, 1, none⟩ = some (.string (⟨#[]⟩ : ByteArray)) := (bC BKgi.out 1).trans rfl
   have hfz14 := bF BKgi.out 1
   have hcz15 : v6.cell? ⟨gi, 2, none⟩ = some (.bool false) := (bC BKgi.out 2).trans rfl
   have hfz15 := bF BKgi.out 2
   have hcz16 : v6.cell? ⟨gi, 3, none⟩ = some (.string (⟨#[]⟩ : ByteArray)) := (bC BKgi.out 3).trans rfl
   have hfz16 := bF BKgi.out 3
   have hcz17 : v6.cell? ⟨gi, 4, none⟩ = some (.int .i64 0) := (bC BKgi.out 4).trans rfl
   have hfz17 := bF BKgi.out 4
   have hcz18 : v6.cell? ⟨gi, 5, none⟩ = some (.slice none 0 0) := (bC BKgi.out 5).trans rfl
   have hfz18 := bF BKgi.out 5
   go_wp2_with ((with_reducible refine gS (t := 3) (p := 35) rfl ?_); refine sE (t := 3) (p := 35) (v := ?vo_v24) (w1 := (v6.setCell ⟨gi, 4, none⟩ (.int .i64 (wrap64 (b * 256))))) ?hg ?ho ?hn ?hr ?_; (case ho => rfl); (case hg => rfl); (case hn => rfl); (case hr => first | (go_simp; done) | (go_simp; rfl)); intro v24 hw; have n0_ := A0_.mk (by rw [hw]; (with_reducible repeat (first | refine bN ?_ _ | refine bD ?_ | refine bA ?_ _)); refine bR ?_ NBgR_gi.out _; (with_reducible repeat (first | refine bN ?_ _ | refine bD ?_ | refine bA ?_ _)); exact BKgR.out : v24.heap[gR]? = some (.cells #[.int .i64 0, .string (⟨#[]⟩ : ByteArray), .bool false, .string (⟨#[]⟩ : ByteArray), .int .i64 0, .slice none 0 0] 24 (0, 0))); have n1_ := A0_.mk (by rw [hw]; (with_reducible repeat (first | refine bN ?_ _ | refine bD ?_ | refine bA ?_ _)); refine bR ?_ NBgr_gi.out _; (with_reducible repeat (first | refine bN ?_ _ | refine bD ?_ | refine bA ?_ _)); exact BKgr.out : v24.heap[gr]? = some (.cells #[.string s2] 74 (0, 0))); have n2_ := A0_.mk (by rw [hw]; (with_reducible repeat (first | refine bN ?_ _ | refine bD ?_ | refine bA ?_ _)); refine bP (cs := #[.int .i64 kd, .string (⟨#[]⟩ : ByteArray), .bool false, .string (⟨#[]⟩ : ByteArray), .int .i64 0, .slice none 0 0]) ?_ 4 _ rfl; (with_reducible repeat (first | refine bN ?_ _ | refine bD ?_ | refine bA ?_ _)); exact BKgi.out : v24.heap[gi]? = some (.cells #[.int .i64 kd, .string (⟨#[]⟩ : ByteArray), .bool false, .string (⟨#[]⟩ : ByteArray), .int .i64 (wrap64 (b * 256)), .slice none 0 0] 24 (0, 0))); have n3_ := A0_.mk (by rw [hw]; repeat (first | (with_reducible first | exact HB.out | apply wA | apply pN | apply wD | refine wS ?_ GEgR.out | refine wS ?_ GEgr.out | refine wS ?_ GEgi.out) | exact HB.out) : Below w.heap.size w v24); clear hcz13 hfz13 hcz14 hfz14 hcz15 hfz15 hcz16 hfz16 hcz17 hfz17 hcz18 hfz18; clear BKgR; clear BKgr; clear BKgi; clear HB; have BKgR := n0_; clear n0_; have BKgr := n1_; clear n1_; have BKgi := n2_; clear n2_; have HB := n3_; clear n3_; clear hw; have hcz19 : v24.cell? ⟨gi, 0, none⟩ = some (.int .i64 kd) := (bC BKgi.out 0).trans rfl; have hfz19 := bF BKgi.out 0; have hcz20 : v24.cell? ⟨gi, 1, none⟩ = some (.string (⟨#[]⟩ : ByteArray)) := (bC BKgi.out 1).trans rfl; have hfz20 := bF BKgi.out 1; have hcz21 : v24.cell? ⟨gi, 2, none⟩ = some (.bool false) := (bC BKgi.out 2).trans rfl; have hfz21 := bF BKgi.out 2; have hcz22 : v24.cell? ⟨gi, 3, none⟩ = some (.string (⟨#[]⟩ : ByteArray)) := (bC BKgi.out 3).trans rfl; have hfz22 := bF BKgi.out 3; have hcz23 : v24.cell? ⟨gi, 4, none⟩ = some (.int .i64 (wrap64 (b * 256))) := (bC BKgi.out 4).trans rfl; have hfz23 := bF BKgi.out 4; have hcz24 : v24.cell? ⟨gi, 5, none⟩ = some (.slice none 0 0) := (bC BKgi.out 5).trans rfl; have hfz24 := bF BKgi.out 5)
   refine start_ (n := 7) (S := (fun w' => w'.cell? ⟨gi, 4, none⟩ = some (.int .i64 (wrap64 (b * 256))))) (ds := [6]) #[false, false, false, false, false, false, false] (by kernel_rfl) rfl rfl ((bC BKgi.out 4).trans rfl) (fun hHeld => ?_)
   refine pure_ (i := 0) (N := (some 36)) (v := ?_) (a' := ?_) #[true, false, false, false, false, false, false] rfl rfl (by kernel_rfl) (fun _ _ _ h => h) (Or.inl ⟨by rfl, ?_⟩) ?_ ?_
   rotate_left
   ·intro w'
    go_simp
    with_reducible rfl
   rotate_left
   ·simp only [Act.put, List.setIfInBounds_toArray, List.set_cons_zero, List.set_cons_succ]
    rfl
   refine take_ (i := 1) (N := (some 37)) (v := ?_) (a' := ?_) #[true, true, false, false, false, false, false] rfl rfl (by kernel_rfl) (fun _ _ _ h => h) (Or.inl ⟨by rfl, ?_⟩) hHeld ?_ ?_
   rotate_left
   ·intro w' hS_
    go_simp
    with_reducible rfl
   rotate_left
   ·simp only [Act.put, List.setIfInBounds_toArray, List.set_cons_zero, List.set_cons_succ]
    rfl
   refine pure_ (i := 2) (N := (some 38)) (v := ?_) (a' := ?_) #[true, true, true, false, false, false, false] rfl rfl (by kernel_rfl) (fun _ _ _ h => h) (Or.inl ⟨by rfl, ?_⟩) ?_ ?_
   rotate_left
   ·intro w'
    go_simp
    with_reducible rfl
   rotate_left
   ·simp only [Act.put, List.setIfInBounds_toArray, List.set_cons_zero, List.set_cons_succ]
    rfl
   refine one_ (i := 3) (N := some 39) #[true, true, true, true, false, false, false] rfl rfl (by kernel_rfl) (by decide) (fun K hK => ?_)
   refine goes_ Tryd.func39 (by kernel_rfl) rfl #[.pointer (some ⟨gr, 0, none⟩)] (by rfl) rfl rfl (by (try simp only [List.map_toArray, List.map_cons, List.map_nil]); first | done | rfl) ?_
   with_reducible refine (PNor.n9number.calls gr s2 c s3 w _ (is74 (by (with_reducible repeat (first | refine bN ?_ _ | refine bD ?_ | refine bA ?_ _)); exact BKgr.out) GEgr.out) (by repeat (first | (with_reducible first | exact HB.out | apply wA | apply pN | apply wD | refine wS ?_ GEgR.out | refine wS ?_ GEgr.out | refine wS ?_ GEgi.out) | exact HB.out)) H3.out).mono ?_
   rintro e v25 ⟨rfl, hi_, hb2_, hk_⟩
   have n0_ := A0_.mk ((hk_.2 gR (bL (g := gR) (o := .cells #[.int .i64 0, .string (⟨#[]⟩ : ByteArray), .bool false, .string (⟨#[]⟩ : ByteArray), .int .i64 0, .slice none 0 0] 24 (0, 0)) (by (with_reducible repeat (first | refine bN ?_ _ | refine bD ?_ | refine bA ?_ _)); exact BKgR.out)) NBgR_gr.out (by simp)).trans (by (with_reducible repeat (first | refine bN ?_ _ | refine bD ?_ | refine bA ?_ _)); exact BKgR.out))
   have n1_ := A0_.mk hi_.1
   have n2_ := A0_.mk ((hk_.2 gi (bL (g := gi) (o := .cells #[.int .i64 kd, .string (⟨#[]⟩ : ByteArray), .bool false, .string (⟨#[]⟩ : ByteArray), .int .i64 (wrap64 (b * 256)), .slice none 0 0] 24 (0, 0)) (by (with_reducible repeat (first | refine bN ?_ _ | refine bD ?_ | refine bA ?_ _)); exact BKgi.out)) NBgi_gr.out (by simp)).trans (by (with_reducible repeat (first | refine bN ?_ _ | refine bD ?_ | refine bA ?_ _)); exact BKgi.out))
   have n3_ := A0_.mk hb2_
   clear hcz19 hfz19 hcz20 hfz20 hcz21 hfz21 hcz22 hfz22 hcz23 hfz23 hcz24 hfz24
   clear BKgR
   clear BKgr
   clear BKgi
   clear HB
   have BKgR := n0_; clear n0_
   have BKgr := n1_; clear n1_
   have BKgi := n2_; clear n2_
   have HB := n3_; clear n3_
   clear hi_ hb2_ hk_
   have hcz25 : v25.cell? ⟨gi, 0, none⟩ = some (.int .i64 kd) := (bC BKgi.out 0).trans rfl
   have hfz25 := bF BKgi.out 0
   have hcz26 : v25.cell? ⟨gi, 1, none⟩ = some (.string (⟨#[]⟩ : ByteArray)) := (bC BKgi.out 1).trans rfl
   have hfz26 := bF BKgi.out 1
   have hcz27 : v25.cell? ⟨gi, 2, none⟩ = some (.bool false) := (bC BKgi.out 2).trans rfl
   have hfz27 := bF BKgi.out 2
   have hcz28 : v25.cell? ⟨gi, 3, none⟩ = some (.string (⟨#[]⟩ : ByteArray)) := (bC BKgi.out 3).trans rfl
   have hfz28 := bF BKgi.out 3
   have hcz29 : v25.cell? ⟨gi, 4, none⟩ = some (.int .i64 (wrap64 (b * 256))) := (bC BKgi.out 4).trans rfl
   have hfz29 := bF BKgi.out 4
   have hcz30 : v25.cell? ⟨gi, 5, none⟩ = some (.slice none 0 0) := (bC BKgi.out 5).trans rfl
   have hfz30 := bF BKgi.out 5
   refine ⟨_, rfl, ?_⟩
   refine hK.out _ _ ((bC BKgi.out 4).trans rfl) (fun hHeld => ?_)
   clear hK K
   refine norm_ (a' := ?_) ?_ ?_
   rotate_left
   ·show Act.put _ (some 39) _ = _
    simp only [Act.put, List.setIfInBounds_toArray, List.set_cons_zero, List.set_cons_succ]
    rfl
   refine pure_ (i := 4) (N := (some 40)) (v := ?_) (a' := ?_) #[true, true, true, true, true, false, false] rfl rfl (by kernel_rfl) (fun _ _ _ h => h) (Or.inl ⟨by rfl, ?_⟩) ?_ ?_
   rotate_left
   ·intro w'
    go_simp
    with_reducible rfl
   rotate_left
   ·simp only [Act.put, List.setIfInBounds_toArray, List.set_cons_zero, List.set_cons_succ]
    rfl
   refine pure_ (i := 5) (N := (some 41)) (v := ?_) (a' := ?_) #[true, true, true, true, true, true, false] rfl rfl (by kernel_rfl) (fun _ _ _ h => h) (Or.inl ⟨by rfl, ?_⟩) ?_ ?_
   rotate_left
   ·intro w'
    go_simp
    with_reducible rfl
   rotate_left
   ·simp only [Act.put, List.setIfInBounds_toArray, List.set_cons_zero, List.set_cons_succ]
    rfl
   refine last_ (i := 6) (N := none) #[true, true, true, true, true, true, true] rfl rfl (by kernel_rfl) (by decide) (fun K hK => ?_)
   refine skip_ (w1 := ?_) (by rfl) rfl ?_ ?_
   rotate_left
   ·go_simp
    rfl
   refine hK.out _ _ ?_
   clear hK K
   refine done_ (by kernel_rfl) ?_
   obtain ⟨v26, hW_⟩ : ∃ W_, W_ = v25.setCell ⟨gi, 4, none⟩ (.int .i64 (Go.bits .or .i64 (wrap64 (b * 256)) c)) := ⟨_, rfl⟩
   have n0_ := A0_.mk (by rw [hW_]; exact bR BKgR.out NBgR_gi.out _ : v26.heap[gR]? = some (.cells #[.int .i64 0, .string (⟨#[]⟩ : ByteArray), .bool false, .string (⟨#[]⟩ : ByteArray), .int .i64 0, .slice none 0 0] 24 (0, 0)))
   have n1_ := A0_.mk (by rw [hW_]; exact bR BKgr.out NBgr_gi.out _ : v26.heap[gr]? = some (.cells #[.string s3] 74 (0, 0)))
   have n2_ := A0_.mk (by rw [hW_]; exact bP (cs := #[.int .i64 kd, .string (⟨#[]⟩ : ByteArray), .bool false, .string (⟨#[]⟩ : ByteArray), .int .i64 (wrap64 (b * 256)), .slice none 0 0]) BKgi.out 4 _ rfl : v26.heap[gi]? = some (.cells #[.int .i64 kd, .string (⟨#[]⟩ : ByteArray), .bool false, .string (⟨#[]⟩ : ByteArray), .int .i64 (Go.bits .or .i64 (wrap64 (b * 256)) c), .slice none 0 0] 24 (0, 0)))
   have n3_ := A0_.mk (by rw [hW_]; exact wS HB.out GEgi.out : Below w.heap.size w v26)
   rw [← hW_]
   clear hcz25 hfz25 hcz26 hfz26 hcz27 hfz27 hcz28 hfz28 hcz29 hfz29 hcz30 hfz30
   clear BKgR
   clear BKgr
   clear BKgi
   clear HB
   have BKgR := n0_; clear n0_
   have BKgr := n1_; clear n1_
   have BKgi := n2_; clear n2_
   have HB := n3_; clear n3_
   clear hW_
   have hcz31 : v26.cell? ⟨gi, 0, none⟩ = some (.int .i64 kd) := (bC BKgi.out 0).trans rfl
   have hfz31 := bF BKgi.out 0
   have hcz32 : v26.cell? ⟨gi, 1, none⟩ = some (.string (⟨#[]⟩ : ByteArray)) := (bC BKgi.out 1).trans rfl
   have hfz32 := bF BKgi.out 1
   have hcz33 : v26.cell? ⟨gi, 2, none⟩ = some (.bool false) := (bC BKgi.out 2).trans rfl
   have hfz33 := bF BKgi.out 2
   have hcz34 : v26.cell? ⟨gi, 3, none⟩ = some (.string (⟨#[]⟩ : ByteArray)) := (bC BKgi.out 3).trans rfl
   have hfz34 := bF BKgi.out 3
   have hcz35 : v26.cell? ⟨gi, 4, none⟩ = some (.int .i64 (Go.bits .or .i64 (wrap64 (b * 256)) c)) := (bC BKgi.out 4).trans rfl
   have hfz35 := bF BKgi.out 4
   have hcz36 : v26.cell? ⟨gi, 5, none⟩ = some (.slice none 0 0) := (bC BKgi.out 5).trans rfl
   have hfz36 := bF BKgi.out 5
   go_wp2_with fail
   with_reducible refine (PNor.n9number.calls gr s3 d s4 w _ (is74 (by (with_reducible repeat (first | refine bN ?_ _ | refine bD ?_ | refine bA ?_ _)); exact BKgr.out) GEgr.out) (by repeat (first | (with_reducible first | exact HB.out | apply wA | apply pN | apply wD | refine wS ?_ GEgR.out | refine wS ?_ GEgr.out | refine wS ?_ GEgi.out) | exact HB.out)) H4.out).mono ?_
   rintro e v27 ⟨rfl, hi_, hb2_, hk_⟩
   have n0_ := A0_.mk ((hk_.2 gR (bL (g := gR) (o := .cells #[.int .i64 0, .string (⟨#[]⟩ : ByteArray), .bool false, .string (⟨#[]⟩ : ByteArray), .int .i64 0, .slice none 0 0] 24 (0, 0)) (by (with_reducible repeat (first | refine bN ?_ _ | refine bD ?_ | refine bA ?_ _)); exact BKgR.out)) NBgR_gr.out (by simp)).trans (by (with_reducible repeat (first | refine bN ?_ _ | refine bD ?_ | refine bA ?_ _)); exact BKgR.out))
   have n1_ := A0_.mk hi_.1
   have n2_ := A0_.mk ((hk_.2 gi (bL (g := gi) (o := .cells #[.int .i64 kd, .string (⟨#[]⟩ : ByteArray), .bool false, .string (⟨#[]⟩ : ByteArray), .int .i64 (Go.bits .or .i64 (wrap64 (b * 256)) c), .slice none 0 0] 24 (0, 0)) (by (with_reducible repeat (first | refine bN ?_ _ | refine bD ?_ | refine bA ?_ _)); exact BKgi.out)) NBgi_gr.out (by simp)).trans (by (with_reducible repeat (first | refine bN ?_ _ | refine bD ?_ | refine bA ?_ _)); exact BKgi.out))
   have n3_ := A0_.mk hb2_
   clear hcz31 hfz31 hcz32 hfz32 hcz33 hfz33 hcz34 hfz34 hcz35 hfz35 hcz36 hfz36
   clear BKgR
   clear BKgr
   clear BKgi
   clear HB
   have BKgR := n0_; clear n0_
   have BKgr := n1_; clear n1_
   have BKgi := n2_; clear n2_
   have HB := n3_; clear n3_
   clear hi_ hb2_ hk_
   have hcz37 : v27.cell? ⟨gi, 0, none⟩ = some (.int .i64 kd) := (bC BKgi.out 0).trans rfl
   have hfz37 := bF BKgi.out 0
   have hcz38 : v27.cell? ⟨gi, 1, none⟩ = some (.string (⟨#[]⟩ : ByteArray)) := (bC BKgi.out 1).trans rfl
   have hfz38 := bF BKgi.out 1
   have hcz39 : v27.cell? ⟨gi, 2, none⟩ = some (.bool false) := (bC BKgi.out 2).trans rfl
   have hfz39 := bF BKgi.out 2
   have hcz40 : v27.cell? ⟨gi, 3, none⟩ = some (.string (⟨#[]⟩ : ByteArray)) := (bC BKgi.out 3).trans rfl
   have hfz40 := bF BKgi.out 3
   have hcz41 : v27.cell? ⟨gi, 4, none⟩ = some (.int .i64 (Go.bits .or .i64 (wrap64 (b * 256)) c)) := (bC BKgi.out 4).trans rfl
   have hfz41 := bF BKgi.out 4
   have hcz42 : v27.cell? ⟨gi, 5, none⟩ = some (.slice none 0 0) := (bC BKgi.out 5).trans rfl
   have hfz42 := bF BKgi.out 5
   go_wp2_with ((with_reducible refine gS (t := 4) (p := 45) rfl ?_); refine sE (t := 4) (p := 45) (v := ?vo_v28) (w1 := (v27.setCell ⟨gi, 2, none⟩ (.bool false))) ?hg ?ho ?hn ?hr ?_; (case ho => rfl); (case hg => rfl); (case hn => rfl); (case hr => first | (go_simp; done) | (go_simp; rfl)); intro v28 hw; have n0_ := A0_.mk (by rw [hw]; (with_reducible repeat (first | refine bN ?_ _ | refine bD ?_ | refine bA ?_ _)); refine bR ?_ NBgR_gi.out _; (with_reducible repeat (first | refine bN ?_ _ | refine bD ?_ | refine bA ?_ _)); exact BKgR.out : v28.heap[gR]? = some (.cells #[.int .i64 0, .string (⟨#[]⟩ : ByteArray), .bool false, .string (⟨#[]⟩ : ByteArray), .int .i64 0, .slice none 0 0] 24 (0, 0))); have n1_ := A0_.mk (by rw [hw]; (with_reducible repeat (first | refine bN ?_ _ | refine bD ?_ | refine bA ?_ _)); refine bR ?_ NBgr_gi.out _; (with_reducible repeat (first | refine bN ?_ _ | refine bD ?_ | refine bA ?_ _)); exact BKgr.out : v28.heap[gr]? = some (.cells #[.string s4] 74 (0, 0))); have n2_ := A0_.mk (by rw [hw]; (with_reducible repeat (first | refine bN ?_ _ | refine bD ?_ | refine bA ?_ _)); refine bP (cs := #[.int .i64 kd, .string (⟨#[]⟩ : ByteArray), .bool false, .string (⟨#[]⟩ : ByteArray), .int .i64 (Go.bits .or .i64 (wrap64 (b * 256)) c), .slice none 0 0]) ?_ 2 _ rfl; (with_reducible repeat (first | refine bN ?_ _ | refine bD ?_ | refine bA ?_ _)); exact BKgi.out : v28.heap[gi]? = some (.cells #[.int .i64 kd, .string (⟨#[]⟩ : ByteArray), .bool false, .string (⟨#[]⟩ : ByteArray), .int .i64 (Go.bits .or .i64 (wrap64 (b * 256)) c), .slice none 0 0] 24 (0, 0))); have n3_ := A0_.mk (by rw [hw]; repeat (first | (with_reducible first | exact HB.out | apply wA | apply pN | apply wD | refine wS ?_ GEgR.out | refine wS ?_ GEgr.out | refine wS ?_ GEgi.out) | exact HB.out) : Below w.heap.size w v28); clear hcz37 hfz37 hcz38 hfz38 hcz39 hfz39 hcz40 hfz40 hcz41 hfz41 hcz42 hfz42; clear BKgR; clear BKgr; clear BKgi; clear HB; have BKgR := n0_; clear n0_; have BKgr := n1_; clear n1_; have BKgi := n2_; clear n2_; have HB := n3_; clear n3_; clear hw; have hcz43 : v28.cell? ⟨gi, 0, none⟩ = some (.int .i64 kd) := (bC BKgi.out 0).trans rfl; have hfz43 := bF BKgi.out 0; have hcz44 : v28.cell? ⟨gi, 1, none⟩ = some (.string (⟨#[]⟩ : ByteArray)) := (bC BKgi.out 1).trans rfl; have hfz44 := bF BKgi.out 1; have hcz45 : v28.cell? ⟨gi, 2, none⟩ = some (.bool false) := (bC BKgi.out 2).trans rfl; have hfz45 := bF BKgi.out 2; have hcz46 : v28.cell? ⟨gi, 3, none⟩ = some (.string (⟨#[]⟩ : ByteArray)) := (bC BKgi.out 3).trans rfl; have hfz46 := bF BKgi.out 3; have hcz47 : v28.cell? ⟨gi, 4, none⟩ = some (.int .i64 (Go.bits .or .i64 (wrap64 (b * 256)) c)) := (bC BKgi.out 4).trans rfl; have hfz47 := bF BKgi.out 4; have hcz48 : v28.cell? ⟨gi, 5, none⟩ = some (.slice none 0 0) := (bC BKgi.out 5).trans rfl; have hfz48 := bF BKgi.out 5)
   go_meet
   case rel => exact ⟨(⟨#[]⟩ : ByteArray), false, (⟨#[]⟩ : ByteArray), (Go.bits .or .i64 (wrap64 (b * 256)) c), s4, l, s9, ⟨H9.out⟩, ⟨HE.out⟩, ⟨BKgR.out⟩, ⟨BKgr.out⟩, ⟨BKgi.out⟩, ⟨HB.out⟩⟩
 case rest =>
  (try clear h)
  (try clear BKgR)
  (try clear BKgr)
  (try clear BKgi)
  (try clear HB)
  obtain ⟨xb, xh, xv, xm, xs, l, s9, H9, HE, BKgR, BKgr, BKgi, HB⟩ := hcut
  have h' := HE.out
  clear HE
  simp only [Option.some.injEq, Prod.mk.injEq] at h'
  obtain ⟨rfl, rfl, rfl, rfl, rfl, rfl⟩ := h'
  go_wp2_with fail
  have hlR_ := bL (g := gR) (o := .cells #[.int .i64 0, .string (⟨#[]⟩ : ByteArray), .bool false, .string (⟨#[]⟩ : ByteArray), .int .i64 0, .slice none 0 0] 24 (0, 0)) (by (with_reducible repeat (first | refine bN ?_ _ | refine bD ?_ | refine bA ?_ _)); exact BKgR.out)
  have hlI_ := bL (g := gi) (o := .cells #[.int .i64 kd, .string xb, .bool xh, .string xv, .int .i64 xm, .slice none 0 0] 24 (0, 0)) (by (with_reducible repeat (first | refine bN ?_ _ | refine bD ?_ | refine bA ?_ _)); exact BKgi.out)
  have hls_ := wZ HB.out
  with_reducible refine (PNor.n9rest.calls k gr xs l s9 w _ (is74 (by (with_reducible repeat (first | refine bN ?_ _ | refine bD ?_ | refine bA ?_ _)); exact BKgr.out) GEgr.out) (by repeat (first | (with_reducible first | exact HB.out | apply wA | apply pN | apply wD | refine wS ?_ GEgR.out | refine wS ?_ GEgr.out | refine wS ?_ GEgi.out) | exact HB.out)) H9.out).mono ?_
  rintro e v29 ⟨v0_, rfl, hR0, hi_, hb2_, hk_⟩
  obtain ⟨A, cp, rfl⟩ := Kd.R_slice hR0
  have n0_ := A0_.mk ((hk_.2 gR (bL (g := gR) (o := .cells #[.int .i64 0, .string (⟨#[]⟩ : ByteArray), .bool false, .string (⟨#[]⟩ : ByteArray), .int .i64 0, .slice none 0 0] 24 (0, 0)) (by (with_reducible repeat (first | refine bN ?_ _ | refine bD ?_ | refine bA ?_ _)); exact BKgR.out)) NBgR_gr.out (by simp)).trans (by (with_reducible repeat (first | refine bN ?_ _ | refine bD ?_ | refine bA ?_ _)); exact BKgR.out))
  have n1_ := A0_.mk hi_.1
  have n2_ := A0_.mk ((hk_.2 gi (bL (g := gi) (o := .cells #[.int .i64 kd, .string xb, .bool xh, .string xv, .int .i64 xm, .slice none 0 0] 24 (0, 0)) (by (with_reducible repeat (first | refine bN ?_ _ | refine bD ?_ | refine bA ?_ _)); exact BKgi.out)) NBgi_gr.out (by simp)).trans (by (with_reducible repeat (first | refine bN ?_ _ | refine bD ?_ | refine bA ?_ _)); exact BKgi.out))
  have n3_ := A0_.mk hb2_
  clear BKgR
  clear BKgr
  clear BKgi
  clear HB
  have BKgR := n0_; clear n0_
  have BKgr := n1_; clear n1_
  have BKgi := n2_; clear n2_
  have HB := n3_; clear n3_
  clear hi_ hb2_ hk_
  have hcz13 : v29.cell? ⟨gi, 0, none⟩ = some (.int .i64 kd) := (bC BKgi.out 0).trans rfl
  have hfz13 := bF BKgi.out 0
  have hcz14 : v29.cell? ⟨gi, 1, none⟩ = some (.string xb) := (bC BKgi.out 1).trans rfl
  have hfz14 := bF BKgi.out 1
  have hcz15 : v29.cell? ⟨gi, 2, none⟩ = some (.bool xh) := (bC BKgi.out 2).trans rfl
  have hfz15 := bF BKgi.out 2
  have hcz16 : v29.cell? ⟨gi, 3, none⟩ = some (.string xv) := (bC BKgi.out 3).trans rfl
  have hfz16 := bF BKgi.out 3
  have hcz17 : v29.cell? ⟨gi, 4, none⟩ = some (.int .i64 xm) := (bC BKgi.out 4).trans rfl
  have hfz17 := bF BKgi.out 4
  have hcz18 : v29.cell? ⟨gi, 5, none⟩ = some (.slice none 0 0) := (bC BKgi.out 5).trans rfl
  have hfz18 := bF BKgi.out 5
  go_wp2_with (first | ((with_reducible refine gS (t := 22) (p := 55) rfl ?_); refine sE (t := 22) (p := 55) (v := ?vo_v30) (w1 := (v29.setCell ⟨gi, 5, none⟩ (.slice A l.length cp))) ?hg ?ho ?hn ?hr ?_; (case ho => rfl); (case hg => rfl); (case hn => rfl); (case hr => first | (go_simp; done) | (go_simp; rfl)); intro v30 hw; have n0_ := A0_.mk (by rw [hw]; (with_reducible repeat (first | refine bN ?_ _ | refine bD ?_ | refine bA ?_ _)); refine bR ?_ NBgR_gi.out _; (with_reducible repeat (first | refine bN ?_ _ | refine bD ?_ | refine bA ?_ _)); exact BKgR.out : v30.heap[gR]? = some (.cells #[.int .i64 0, .string (⟨#[]⟩ : ByteArray), .bool false, .string (⟨#[]⟩ : ByteArray), .int .i64 0, .slice none 0 0] 24 (0, 0))); have n1_ := A0_.mk (by rw [hw]; (with_reducible repeat (first | refine bN ?_ _ | refine bD ?_ | refine bA ?_ _)); refine bR ?_ NBgr_gi.out _; (with_reducible repeat (first | refine bN ?_ _ | refine bD ?_ | refine bA ?_ _)); exact BKgr.out : v30.heap[gr]? = some (.cells #[.string s9] 74 (0, 0))); have n2_ := A0_.mk (by rw [hw]; (with_reducible repeat (first | refine bN ?_ _ | refine bD ?_ | refine bA ?_ _)); refine bP (cs := #[.int .i64 kd, .string xb, .bool xh, .string xv, .int .i64 xm, .slice none 0 0]) ?_ 5 _ rfl; (with_reducible repeat (first | refine bN ?_ _ | refine bD ?_ | refine bA ?_ _)); exact BKgi.out : v30.heap[gi]? = some (.cells #[.int .i64 kd, .string xb, .bool xh, .string xv, .int .i64 xm, .slice A l.length cp] 24 (0, 0))); have n3_ := A0_.mk (by rw [hw]; repeat (first | (with_reducible first | exact HB.out | apply wA | apply pN | apply wD | refine wS ?_ GEgR.out | refine wS ?_ GEgr.out | refine wS ?_ GEgi.out) | exact HB.out) : Below w.heap.size w v30); clear hcz13 hfz13 hcz14 hfz14 hcz15 hfz15 hcz16 hfz16 hcz17 hfz17 hcz18 hfz18; clear BKgR; clear BKgr; clear BKgi; clear HB; have BKgR := n0_; clear n0_; have BKgr := n1_; clear n1_; have BKgi := n2_; clear n2_; have HB := n3_; clear n3_; have hR1 : Kd.R Kd.string 9 v30 _ (fun _ => True) (.slice A l.length cp) l := (by rw [hw]; exact R_one hR0 hlI_ 5 _); clear hR0 hw; have hcz19 : v30.cell? ⟨gR, 0, none⟩ = some (.int .i64 0) := (bC BKgR.out 0).trans rfl; have hfz19 := bF BKgR.out 0; have hcz20 : v30.cell? ⟨gR, 1, none⟩ = some (.string (⟨#[]⟩ : ByteArray)) := (bC BKgR.out 1).trans rfl; have hfz20 := bF BKgR.out 1; have hcz21 : v30.cell? ⟨gR, 2, none⟩ = some (.bool false) := (bC BKgR.out 2).trans rfl; have hfz21 := bF BKgR.out 2; have hcz22 : v30.cell? ⟨gR, 3, none⟩ = some (.string (⟨#[]⟩ : ByteArray)) := (bC BKgR.out 3).trans rfl; have hfz22 := bF BKgR.out 3; have hcz23 : v30.cell? ⟨gR, 4, none⟩ = some (.int .i64 0) := (bC BKgR.out 4).trans rfl; have hfz23 := bF BKgR.out 4; have hcz24 : v30.cell? ⟨gR, 5, none⟩ = some (.slice none 0 0) := (bC BKgR.out 5).trans rfl; have hfz24 := bF BKgR.out 5; have hcz25 : v30.cell? ⟨gi, 0, none⟩ = some (.int .i64 kd) := (bC BKgi.out 0).trans rfl; have hfz25 := bF BKgi.out 0; have hcz26 : v30.cell? ⟨gi, 1, none⟩ = some (.string xb) := (bC BKgi.out 1).trans rfl; have hfz26 := bF BKgi.out 1; have hcz27 : v30.cell? ⟨gi, 2, none⟩ = some (.bool xh) := (bC BKgi.out 2).trans rfl; have hfz27 := bF BKgi.out 2; have hcz28 : v30.cell? ⟨gi, 3, none⟩ = some (.string xv) := (bC BKgi.out 3).trans rfl; have hfz28 := bF BKgi.out 3; have hcz29 : v30.cell? ⟨gi, 4, none⟩ = some (.int .i64 xm) := (bC BKgi.out 4).trans rfl; have hfz29 := bF BKgi.out 4; have hcz30 : v30.cell? ⟨gi, 5, none⟩ = some (.slice A l.length cp) := (bC BKgi.out 5).trans rfl; have hfz30 := bF BKgi.out 5) | ((with_reducible refine gS (t := 24) (p := 2) rfl ?_); refine sE (t := 24) (p := 2) (v := ?vo_v31) (w1 := ((((((v30.setCell ⟨gR, 0, none⟩ (.int .i64 kd)).setCell ⟨gR, 1, none⟩ (.string xb)).setCell ⟨gR, 2, none⟩ (.bool xh)).setCell ⟨gR, 3, none⟩ (.string xv)).setCell ⟨gR, 4, none⟩ (.int .i64 xm)).setCell ⟨gR, 5, none⟩ (.slice A l.length cp))) ?hg ?ho ?hn ?hr ?_; (case ho => rfl); (case hg => rfl); (case hn => rfl); (case hr => first | (go_simp; done) | (go_simp; rfl)); intro v31 hw; have n0_ := A0_.mk (by rw [hw]; (with_reducible repeat (first | refine bN ?_ _ | refine bD ?_ | refine bA ?_ _)); refine bP (cs := #[.int .i64 kd, .string xb, .bool xh, .string xv, .int .i64 xm, .slice none 0 0]) ?_ 5 _ rfl; (with_reducible repeat (first | refine bN ?_ _ | refine bD ?_ | refine bA ?_ _)); refine bP (cs := #[.int .i64 kd, .string xb, .bool xh, .string xv, .int .i64 0, .slice none 0 0]) ?_ 4 _ rfl; (with_reducible repeat (first | refine bN ?_ _ | refine bD ?_ | refine bA ?_ _)); refine bP (cs := #[.int .i64 kd, .string xb, .bool xh, .string (⟨#[]⟩ : ByteArray), .int .i64 0, .slice none 0 0]) ?_ 3 _ rfl; (with_reducible repeat (first | refine bN ?_ _ | refine bD ?_ | refine bA ?_ _)); refine bP (cs := #[.int .i64 kd, .string xb, .bool false, .string (⟨#[]⟩ : ByteArray), .int .i64 0, .slice none 0 0]) ?_ 2 _ rfl; (with_reducible repeat (first | refine bN ?_ _ | refine bD ?_ | refine bA ?_ _)); refine bP (cs := #[.int .i64 kd, .string (⟨#[]⟩ : ByteArray), .bool false, .string (⟨#[]⟩ : ByteArray), .int .i64 0, .slice none 0 0]) ?_ 1 _ rfl; (with_reducible repeat (first | refine bN ?_ _ | refine bD ?_ | refine bA ?_ _)); refine bP (cs := #[.int .i64 0, .string (⟨#[]⟩ : ByteArray), .bool false, .string (⟨#[]⟩ : ByteArray), .int .i64 0, .slice none 0 0]) ?_ 0 _ rfl; (with_reducible repeat (first | refine bN ?_ _ | refine bD ?_ | refine bA ?_ _)); exact BKgR.out : v31.heap[gR]? = some (.cells #[.int .i64 kd, .string xb, .bool xh, .string xv, .int .i64 xm, .slice A l.length cp] 24 (0, 0))); have n1_ := A0_.mk (by rw [hw]; (with_reducible repeat (first | refine bN ?_ _ | refine bD ?_ | refine bA ?_ _)); refine bR ?_ NBgr_gR.out _; (with_reducible repeat (first | refine bN ?_ _ | refine bD ?_ | refine bA ?_ _)); refine bR ?_ NBgr_gR.out _; (with_reducible repeat (first | refine bN ?_ _ | refine bD ?_ | refine bA ?_ _)); refine bR ?_ NBgr_gR.out _; (with_reducible repeat (first | refine bN ?_ _ | refine bD ?_ | refine bA ?_ _)); refine bR ?_ NBgr_gR.out _; (with_reducible repeat (first | refine bN ?_ _ | refine bD ?_ | refine bA ?_ _)); refine bR ?_ NBgr_gR.out _; (with_reducible repeat (first | refine bN ?_ _ | refine bD ?_ | refine bA ?_ _)); refine bR ?_ NBgr_gR.out _; (with_reducible repeat (first | refine bN ?_ _ | refine bD ?_ | refine bA ?_ _)); exact BKgr.out : v31.heap[gr]? = some (.cells #[.string s9] 74 (0, 0))); have n2_ := A0_.mk (by rw [hw]; (with_reducible repeat (first | refine bN ?_ _ | refine bD ?_ | refine bA ?_ _)); refine bR ?_ NBgi_gR.out _; (with_reducible repeat (first | refine bN ?_ _ | refine bD ?_ | refine bA ?_ _)); refine bR ?_ NBgi_gR.out _; (with_reducible repeat (first | refine bN ?_ _ | refine bD ?_ | refine bA ?_ _)); refine bR ?_ NBgi_gR.out _; (with_reducible repeat (first | refine bN ?_ _ | refine bD ?_ | refine bA ?_ _)); refine bR ?_ NBgi_gR.out _; (with_reducible repeat (first | refine bN ?_ _ | refine bD ?_ | refine bA ?_ _)); refine bR ?_ NBgi_gR.out _; (with_reducible repeat (first | refine bN ?_ _ | refine bD ?_ | refine bA ?_ _)); refine bR ?_ NBgi_gR.out _; (with_reducible repeat (first | refine bN ?_ _ | refine bD ?_ | refine bA ?_ _)); exact BKgi.out : v31.heap[gi]? = some (.cells #[.int .i64 kd, .string xb, .bool xh, .string xv, .int .i64 xm, .slice A l.length cp] 24 (0, 0))); have n3_ := A0_.mk (by rw [hw]; repeat (first | (with_reducible first | exact HB.out | apply wA | apply pN | apply wD | refine wS ?_ GEgR.out | refine wS ?_ GEgr.out | refine wS ?_ GEgi.out) | exact HB.out) : Below w.heap.size w v31); clear hcz19 hfz19 hcz20 hfz20 hcz21 hfz21 hcz22 hfz22 hcz23 hfz23 hcz24 hfz24 hcz25 hfz25 hcz26 hfz26 hcz27 hfz27 hcz28 hfz28 hcz29 hfz29 hcz30 hfz30; clear BKgR; clear BKgr; clear BKgi; clear HB; have BKgR := n0_; clear n0_; have BKgr := n1_; clear n1_; have BKgi := n2_; clear n2_; have HB := n3_; clear n3_; have hR2 : Kd.R Kd.string 9 v31 _ (fun _ => True) (.slice A l.length cp) l := (by rw [hw]; exact R_six hR1 hlR_ _ _ _ _ _ _); clear hR1 hw))
  refine bodyPost_ret (results_cell_row rfl _ _ gR 24 #[.int .i64 kd, .string xb, .bool xh, .string xv, .int .i64 xm, .slice A l.length cp] (0, 0) _ rfl (by (with_reducible repeat (first | refine bN ?_ _ | refine bD ?_ | refine bA ?_ _)); exact BKgR.out) Tryd.underlying24 rfl (by kernel_rfl)) rfl ?_
  exact ⟨_, rfl, Kd.R_lower hR2 hls_, by repeat (first | (with_reducible first | exact HB.out | apply wA | apply pN | apply wD | refine wS ?_ GEgR.out | refine wS ?_ GEgr.out | refine wS ?_ GEgi.out) | exact HB.out)⟩
end Go.Proofs.YtklakmooaffjpaaDoor.NodR
