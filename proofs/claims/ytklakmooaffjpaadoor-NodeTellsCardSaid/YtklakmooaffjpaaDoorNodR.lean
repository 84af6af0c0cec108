/-
 node.read, walked by hand over the reader's contracts.
-/
import Derived.Test.YtklakmooaffjpaaDoorSQ
import Derived.Test.YtklakmooaffjpaaDoorCalm
import Derived.Test.YtklakmooaffjpaaDoorNodH
import Derived.Deep.CutBlock
namespace Go.Proofs.YtklakmooaffjpaaDoor.NodR
open Go.RowKit Go.Proofs.YtklakmooaffjpaaDoorW.PrintWords Go.Proofs.YtklakmooaffjpaaDoorW.PrintLast Go.Proofs.YtklakmooaffjpaaDoorW.PrintMore Go.Proofs.YtklakmooaffjpaaDoor.PNor
set_option linter.unusedVariables false
theorem is74 {w0 W : World} {g : Nat} {s : ByteArray} (h : W.heap[g]? = some (.cells #[.string s] 74 (0, 0))) (hg : w0.heap.size ≤ g) : IsS74 w0 W g s := ⟨h, hg⟩
theorem R_one {w : World} {B : Nat} {v : Value} {l : List ByteArray} {g : Nat} (h : Kd.R Kd.string 9 w B (fun _ => True) v l) (hg : g < B) (j : Nat) (u : Value) : Kd.R Kd.string 9 (w.setCell ⟨g, j, none⟩ u) B (fun _ => True) v l :=
 Kd.R_mono (Kd.R_far (Kd.R_bound h) (fun k hk e => Nat.lt_irrefl _ (Nat.lt_of_lt_of_le hg (by rw [← show k = g from e]; exact hk.2.1))) u) (fun _ _ => trivial)
theorem R_six {w : World} {B : Nat} {v : Value} {l : List ByteArray} {g : Nat} (h : Kd.R Kd.string 9 w B (fun _ => True) v l) (hg : g < B) (a b c d e f : Value) :
  Kd.R Kd.string 9 ((((((w.setCell ⟨g, 0, none⟩ a).setCell ⟨g, 1, none⟩ b).setCell ⟨g, 2, none⟩ c).setCell ⟨g, 3, none⟩ d).setCell ⟨g, 4, none⟩ e).setCell ⟨g, 5, none⟩ f) B (fun _ => True) v l :=
 R_one (R_one (R_one (R_one (R_one (R_one h hg 0 a) hg 1 b) hg 2 c) hg 3 d) hg 4 e) hg 5 f
/-- What a text may say: kind, path, has, value, mask, hashes. -/
def read_f (k : Nat) (s : ByteArray) : Option (Int × ByteArray × Bool × ByteArray × Int × List ByteArray) :=
 (n9number.f s).bind fun a => if a.1 = 1 then (n9path.f k a.2).bind fun b => (n9number.f b.2).bind fun c => (n9take.f c.2 c.1).bind fun d => (n9rest.f k d.2).bind fun e => some (a.1, b.1, true, d.1, 0, e.1)
  else if a.1 = 2 then (n9path.f k a.2).bind fun b => (n9rest.f k b.2).bind fun e => some (a.1, b.1, false, ⟨#[]⟩, 1, e.1)
  else if a.1 = 3 then (n9number.f a.2).bind fun b => (n9number.f b.2).bind fun c => (n9number.f c.2).bind fun d => if d.1 = 1 then (n9number.f d.2).bind fun m => (n9take.f m.2 m.1).bind fun v => (n9rest.f k v.2).bind fun e => some (a.1, ⟨#[]⟩, true, v.1, Go.bits .or .i64 (wrap64 (b.1 * 256)) c.1, e.1)
   else (n9rest.f k d.2).bind fun e => some (a.1, ⟨#[]⟩, false, ⟨#[]⟩, Go.bits .or .i64 (wrap64 (b.1 * 256)) c.1, e.1)
  else (n9rest.f k a.2).bind fun e => some (a.1, ⟨#[]⟩, false, ⟨#[]⟩, 0, e.1)
set_option maxRecDepth 100000 in
set_option maxHeartbeats 16000000 in
theorem read_calls (k : Nat) (s : ByteArray) (r1 : Int) (r2 : ByteArray) (r3 : Bool) (r4 : ByteArray) (r5 : Int) (r6 : List ByteArray) (w : World) (h : read_f k s = some (r1, r2, r3, r4, r5, r6)) :
  Calls Tryd.prog 24 #[.string s] w fun e w' => ∃ v5_ : Value, e = .returned (.agg #[.int .i64 r1, .string r2, .bool r3, .string r4, .int .i64 r5, v5_]) ∧ Kd.R Kd.string 9 w' w.heap.size (fun _ => True) v5_ r6 ∧ Below w.heap.size w w' := by
 have HB := A0_.mk (Below.refl w.heap.size w)
 have hu24 := Tryd.underlying24
 have hu74 := Tryd.underlying74
 unfold read_f at h
 obtain ⟨⟨kd, s1⟩, h1, h⟩ := Option.bind_eq_some_iff.1 h
 dsimp only at h
 have H1 := Lib.hid h1; clear h1
 go_enter Tryd.func24, Tryd.ntmps24
 go_wp2_with (first | ((with_reducible refine gD (N := 2) rfl ?_); (try (refine gG (by rfl) ?_; dsimp only)); refine xE ?hg (N := 2) ?hd (cs := #[.int .i64 0, .string (⟨#[]⟩ : ByteArray), .bool false, .string (⟨#[]⟩ : ByteArray), .int .i64 0, .slice none 0 0]) (t := 24) ?hr ?_; (case hd => rfl); (case hg => rfl); (case hr => first | (go_simp; done) | (go_simp; rfl)); intro gR hg v1 hbox hb; have GEgR := A0_.mk (by rw [hg]; exact wZ SQ.bw : w.heap.size ≤ gR); have BKgR := A0_.mk hbox; replace HB := A0_.mk (wT SQ.bw hb); clear hb hbox hg) | ((with_reducible refine gD (N := 7) rfl ?_); (try (refine gG (by rfl) ?_; dsimp only)); refine xE ?hg (N := 7) ?hd (cs := #[.string s]) (t := 74) ?hr ?_; (case hd => rfl); (case hg => rfl); (case hr => first | (go_simp; done) | (go_simp; rfl)); intro gr hg v2 hbox hb; have NBgR_gr := A0_.mk (by rw [hg]; exact Nat.ne_of_lt (bL (g := gR) SQ.kw) : gR ≠ gr); have NBgr_gR := A0_.mk (by rw [hg]; exact Nat.ne_of_gt (bL (g := gR) SQ.kw) : gr ≠ gR); have GEgr := A0_.mk (by rw [hg]; exact wZ SQ.bw : w.heap.size ≤ gr); have BKgr := A0_.mk hbox; replace BKgR := A0_.mk (bB (g := gR) SQ.kw hb); replace HB := A0_.mk (wT SQ.bw hb); clear hb hbox hg))
 with_reducible refine (PNor.n9number.calls gr s kd s1 w _ (is74 SQ.kw GEgr.out) SQ.bw H1.out).mono ?_
 rintro e v3 ⟨rfl, hi_, hb2_, hk_⟩
 replace BKgR := A0_.mk ((hk_.2 gR (bL (g := gR) SQ.kw) NBgR_gr.out (by simp)).trans SQ.kw)
 replace BKgr := A0_.mk hi_.1
 replace HB := A0_.mk hb2_
 clear hi_ hb2_ hk_
 go_upto_block 0 with (first | ((with_reducible refine gD (N := 4) rfl ?_); (try (refine gG (by rfl) ?_; dsimp only)); refine xE ?hg (N := 4) ?hd (cs := #[.int .i64 0, .string (⟨#[]⟩ : ByteArray), .bool false, .string (⟨#[]⟩ : ByteArray), .int .i64 0, .slice none 0 0]) (t := 24) ?hr ?_; (case hd => rfl); (case hg => rfl); (case hr => first | (go_simp; done) | (go_simp; rfl)); intro gi hg v4 hbox hb; have NBgR_gi := A0_.mk (by rw [hg]; exact Nat.ne_of_lt (bL (g := gR) SQ.kw) : gR ≠ gi); have NBgi_gR := A0_.mk (by rw [hg]; exact Nat.ne_of_gt (bL (g := gR) SQ.kw) : gi ≠ gR); have NBgr_gi := A0_.mk (by rw [hg]; exact Nat.ne_of_lt (bL (g := gr) SQ.kw) : gr ≠ gi); have NBgi_gr := A0_.mk (by rw [hg]; exact Nat.ne_of_gt (bL (g := gr) SQ.kw) : gi ≠ gr); have GEgi := A0_.mk (by rw [hg]; exact wZ SQ.bw : w.heap.size ≤ gi); have BKgi := A0_.mk hbox; replace BKgR := A0_.mk (bB (g := gR) SQ.kw hb); replace BKgr := A0_.mk (bB (g := gr) SQ.kw hb); replace HB := A0_.mk (wT SQ.bw hb); clear hb hbox hg; obtain ⟨hcz1, hcz2, hcz3, hcz4, hcz5, hcz6, hfz1, hfz2, hfz3, hfz4, hfz5, hfz6⟩ := SQ.cs6 BKgi.out) | ((with_reducible refine gS (t := 24) (p := 4) rfl ?_); refine sE (t := 24) (p := 4) (v := ?vo_v5) (w1 := ((((((v4.setCell ⟨gi, 0, none⟩ (.int .i64 kd)).setCell ⟨gi, 1, none⟩ (.string (⟨#[]⟩ : ByteArray))).setCell ⟨gi, 2, none⟩ (.bool false)).setCell ⟨gi, 3, none⟩ (.string (⟨#[]⟩ : ByteArray))).setCell ⟨gi, 4, none⟩ (.int .i64 0)).setCell ⟨gi, 5, none⟩ (.slice none 0 0))) ?hg ?ho ?hn ?hr ?_; (case ho => rfl); (case hg => rfl); (case hn => rfl); (case hr => first | (go_simp; done) | (go_simp; rfl)); intro v5 hw; replace BKgR := A0_.mk (by rw [hw]; (with_reducible repeat (first | refine bN ?_ _ | refine bD ?_ | refine bA ?_ _)); refine bR ?_ NBgR_gi.out _; (with_reducible repeat (first | refine bN ?_ _ | refine bD ?_ | refine bA ?_ _)); refine bR ?_ NBgR_gi.out _; (with_reducible repeat (first | refine bN ?_ _ | refine bD ?_ | refine bA ?_ _)); refine bR ?_ NBgR_gi.out _; (with_reducible repeat (first | refine bN ?_ _ | refine bD ?_ | refine bA ?_ _)); refine bR ?_ NBgR_gi.out _; (with_reducible repeat (first | refine bN ?_ _ | refine bD ?_ | refine bA ?_ _)); refine bR ?_ NBgR_gi.out _; (with_reducible repeat (first | refine bN ?_ _ | refine bD ?_ | refine bA ?_ _)); refine bR ?_ NBgR_gi.out _; (with_reducible repeat (first | refine bN ?_ _ | refine bD ?_ | refine bA ?_ _)); exact BKgR.out : v5.heap[gR]? = some (.cells #[.int .i64 0, .string (⟨#[]⟩ : ByteArray), .bool false, .string (⟨#[]⟩ : ByteArray), .int .i64 0, .slice none 0 0] 24 (0, 0))); replace BKgr := A0_.mk (by rw [hw]; (with_reducible repeat (first | refine bN ?_ _ | refine bD ?_ | refine bA ?_ _)); refine bR ?_ NBgr_gi.out _; (with_reducible repeat (first | refine bN ?_ _ | refine bD ?_ | refine bA ?_ _)); refine bR ?_ NBgr_gi.out _; (with_reducible repeat (first | refine bN ?_ _ | refine bD ?_ | refine bA ?_ _)); refine bR ?_ NBgr_gi.out _; (with_reducible repeat (first | refine bN ?_ _ | refine bD ?_ | refine bA ?_ _)); refine bR ?_ NBgr_gi.out _; (with_reducible repeat (first | refine bN ?_ _ | refine bD ?_ | refine bA ?_ _)); refine bR ?_ NBgr_gi.out _; (with_reducible repeat (first | refine bN ?_ _ | refine bD ?_ | refine bA ?_ _)); refine bR ?_ NBgr_gi.out _; (with_reducible repeat (first | refine bN ?_ _ | refine bD ?_ | refine bA ?_ _)); exact BKgr.out : v5.heap[gr]? = some (.cells #[.string s1] 74 (0, 0))); replace BKgi := A0_.mk (by rw [hw]; (with_reducible repeat (first | refine bN ?_ _ | refine bD ?_ | refine bA ?_ _)); refine bP (cs := #[.int .i64 kd, .string (⟨#[]⟩ : ByteArray), .bool false, .string (⟨#[]⟩ : ByteArray), .int .i64 0, .slice none 0 0]) ?_ 5 _ rfl; (with_reducible repeat (first | refine bN ?_ _ | refine bD ?_ | refine bA ?_ _)); refine bP (cs := #[.int .i64 kd, .string (⟨#[]⟩ : ByteArray), .bool false, .string (⟨#[]⟩ : ByteArray), .int .i64 0, .slice none 0 0]) ?_ 4 _ rfl; (with_reducible repeat (first | refine bN ?_ _ | refine bD ?_ | refine bA ?_ _)); refine bP (cs := #[.int .i64 kd, .string (⟨#[]⟩ : ByteArray), .bool false, .string (⟨#[]⟩ : ByteArray), .int .i64 0, .slice none 0 0]) ?_ 3 _ rfl; (with_reducible repeat (first | refine bN ?_ _ | refine bD ?_ | refine bA ?_ _)); refine bP (cs := #[.int .i64 kd, .string (⟨#[]⟩ : ByteArray), .bool false, .string (⟨#[]⟩ : ByteArray), .int .i64 0, .slice none 0 0]) ?_ 2 _ rfl; (with_reducible repeat (first | refine bN ?_ _ | refine bD ?_ | refine bA ?_ _)); refine bP (cs := #[.int .i64 kd, .string (⟨#[]⟩ : ByteArray), .bool false, .string (⟨#[]⟩ : ByteArray), .int .i64 0, .slice none 0 0]) ?_ 1 _ rfl; (with_reducible repeat (first | refine bN ?_ _ | refine bD ?_ | refine bA ?_ _)); refine bP (cs := #[.int .i64 0, .string (⟨#[]⟩ : ByteArray), .bool false, .string (⟨#[]⟩ : ByteArray), .int .i64 0, .slice none 0 0]) ?_ 0 _ rfl; (with_reducible repeat (first | refine bN ?_ _ | refine bD ?_ | refine bA ?_ _)); exact BKgi.out : v5.heap[gi]? = some (.cells #[.int .i64 kd, .string (⟨#[]⟩ : ByteArray), .bool false, .string (⟨#[]⟩ : ByteArray), .int .i64 0, .slice none 0 0] 24 (0, 0))); replace HB := A0_.mk (by rw [hw]; repeat (first | (with_reducible first | exact HB.out | apply wA | apply pN | apply wD | refine wS ?_ GEgR.out | refine wS ?_ GEgr.out | refine wS ?_ GEgi.out) | exact HB.out) : Below w.heap.size w v5); clear hcz1 hfz1 hcz2 hfz2 hcz3 hfz3 hcz4 hfz4 hcz5 hfz5 hcz6 hfz6; clear hw; obtain ⟨hcz7, hcz8, hcz9, hcz10, hcz11, hcz12, hfz7, hfz8, hfz9, hfz10, hfz11, hfz12⟩ := SQ.cs6 BKgi.out))
 (try simp only [Act.put, List.setIfInBounds_toArray, List.set_cons_zero, List.set_cons_succ])
 go_cut [] (fun wc => ∃ (xb : ByteArray) (xh : Bool) (xv : ByteArray) (xm : Int) (xs : ByteArray) (l : List ByteArray) (s9 : ByteArray), A0_ (n9rest.f k xs = some (l, s9)) ∧ A0_ (some (kd, xb, xh, xv, xm, l) = some (r1, r2, r3, r4, r5, r6)) ∧ A0_ (wc.heap[gR]? = some (.cells #[.int .i64 0, .string (⟨#[]⟩ : ByteArray), .bool false, .string (⟨#[]⟩ : ByteArray), .int .i64 0, .slice none 0 0] 24 (0, 0))) ∧ A0_ (wc.heap[gr]? = some (.cells #[.string xs] 74 (0, 0))) ∧ A0_ (wc.heap[gi]? = some (.cells #[.int .i64 kd, .string xb, .bool xh, .string xv, .int .i64 xm, .slice none 0 0] 24 (0, 0))) ∧ A0_ (Below w.heap.size w wc))
 case first =>
  by_cases k1 : kd = 1
  ·rw [if_pos k1] at h
   obtain ⟨⟨b, s2⟩, h_, h⟩ := Option.bind_eq_some_iff.1 h
   dsimp only at h
   have H2 := Lib.hid h_; clear h_
   obtain ⟨⟨c, s3⟩, h_, h⟩ := Option.bind_eq_some_iff.1 h
   dsimp only at h
   have H3 := Lib.hid h_; clear h_
   obtain ⟨⟨d, s4⟩, h_, h⟩ := Option.bind_eq_some_iff.1 h
   dsimp only at h
   have H4 := Lib.hid h_; clear h_
   obtain ⟨⟨l, s9⟩, h_, h⟩ := Option.bind_eq_some_iff.1 h
   have H9 := Lib.hid h_; clear h_
   dsimp only at h
   have HE := Lib.hid h; clear h
   have f1 : (kd == 1) = true := beq_iff_eq.2 k1
   clear k1
   first | rw [f1] | skip
   go_wp2_with fail
   with_reducible refine (PNor.n9path.calls k gr s1 b s2 w _ (is74 SQ.kw GEgr.out) SQ.bw H2.out).mono ?_
   rintro e v6 ⟨rfl, hi_, hb2_, hk_⟩
   replace BKgR := A0_.mk ((hk_.2 gR (bL (g := gR) SQ.kw) NBgR_gr.out (by simp)).trans SQ.kw)
   replace BKgr := A0_.mk hi_.1
   replace BKgi := A0_.mk ((hk_.2 gi (bL (g := gi) SQ.kw) NBgi_gr.out (by simp)).trans SQ.kw)
   replace HB := A0_.mk hb2_
   clear hcz7 hfz7 hcz8 hfz8 hcz9 hfz9 hcz10 hfz10 hcz11 hfz11 hcz12 hfz12
   clear hi_ hb2_ hk_
   obtain ⟨hcz13, hcz14, hcz15, hcz16, hcz17, hcz18, hfz13, hfz14, hfz15, hfz16, hfz17, hfz18⟩ := SQ.cs6 BKgi.out
   go_wp2_with (first | ((with_reducible refine gS (t := 9) (p := 17) rfl ?_); refine sE (t := 9) (p := 17) (v := ?vo_v11) (w1 := (v6.setCell ⟨gi, 1, none⟩ (.string b))) ?hg ?ho ?hn ?hr ?_; (case ho => rfl); (case hg => rfl); (case hn => rfl); (case hr => first | (go_simp; done) | (go_simp; rfl)); intro v11 hw; replace BKgR := A0_.mk (by rw [hw]; (with_reducible repeat (first | refine bN ?_ _ | refine bD ?_ | refine bA ?_ _)); refine bR ?_ NBgR_gi.out _; (with_reducible repeat (first | refine bN ?_ _ | refine bD ?_ | refine bA ?_ _)); exact BKgR.out : v11.heap[gR]? = some (.cells #[.int .i64 0, .string (⟨#[]⟩ : ByteArray), .bool false, .string (⟨#[]⟩ : ByteArray), .int .i64 0, .slice none 0 0] 24 (0, 0))); replace BKgr := A0_.mk (by rw [hw]; (with_reducible repeat (first | refine bN ?_ _ | refine bD ?_ | refine bA ?_ _)); refine bR ?_ NBgr_gi.out _; (with_reducible repeat (first | refine bN ?_ _ | refine bD ?_ | refine bA ?_ _)); exact BKgr.out : v11.heap[gr]? = some (.cells #[.string s2] 74 (0, 0))); replace BKgi := A0_.mk (by rw [hw]; (with_reducible repeat (first | refine bN ?_ _ | refine bD ?_ | refine bA ?_ _)); refine bP (cs := #[.int .i64 kd, .string (⟨#[]⟩ : ByteArray), .bool false, .string (⟨#[]⟩ : ByteArray), .int .i64 0, .slice none 0 0]) ?_ 1 _ rfl; (with_reducible repeat (first | refine bN ?_ _ | refine bD ?_ | refine bA ?_ _)); exact BKgi.out : v11.heap[gi]? = some (.cells #[.int .i64 kd, .string b, .bool false, .string (⟨#[]⟩ : ByteArray), .int .i64 0, .slice none 0 0] 24 (0, 0))); replace HB := A0_.mk (by rw [hw]; repeat (first | (with_reducible first | exact HB.out | apply wA | apply pN | apply wD | refine wS ?_ GEgR.out | refine wS ?_ GEgr.out | refine wS ?_ GEgi.out) | exact HB.out) : Below w.heap.size w v11); clear hcz13 hfz13 hcz14 hfz14 hcz15 hfz15 hcz16 hfz16 hcz17 hfz17 hcz18 hfz18; clear hw; obtain ⟨hcz19, hcz20, hcz21, hcz22, hcz23, hcz24, hfz19, hfz20, hfz21, hfz22, hfz23, hfz24⟩ := SQ.cs6 BKgi.out) | ((with_reducible refine gS (t := 4) (p := 18) rfl ?_); refine sE (t := 4) (p := 18) (v := ?vo_v12) (w1 := (v11.setCell ⟨gi, 2, none⟩ (.bool true))) ?hg ?ho ?hn ?hr ?_; (case ho => rfl); (case hg => rfl); (case hn => rfl); (case hr => first | (go_simp; done) | (go_simp; rfl)); intro v12 hw; replace BKgR := A0_.mk (by rw [hw]; (with_reducible repeat (first | refine bN ?_ _ | refine bD ?_ | refine bA ?_ _)); refine bR ?_ NBgR_gi.out _; (with_reducible repeat (first | refine bN ?_ _ | refine bD ?_ | refine bA ?_ _)); exact BKgR.out : v12.heap[gR]? = some (.cells #[.int .i64 0, .string (⟨#[]⟩ : ByteArray), .bool false, .string (⟨#[]⟩ : ByteArray), .int .i64 0, .slice none 0 0] 24 (0, 0))); replace BKgr := A0_.mk (by rw [hw]; (with_reducible repeat (first | refine bN ?_ _ | refine bD ?_ | refine bA ?_ _)); refine bR ?_ NBgr_gi.out _; (with_reducible repeat (first | refine bN ?_ _ | refine bD ?_ | refine bA ?_ _)); exact BKgr.out : v12.heap[gr]? = some (.cells #[.string s2] 74 (0, 0))); replace BKgi := A0_.mk (by rw [hw]; (with_reducible repeat (first | refine bN ?_ _ | refine bD ?_ | refine bA ?_ _)); refine bP (cs := #[.int .i64 kd, .string b, .bool false, .string (⟨#[]⟩ : ByteArray), .int .i64 0, .slice none 0 0]) ?_ 2 _ rfl; (with_reducible repeat (first | refine bN ?_ _ | refine bD ?_ | refine bA ?_ _)); exact BKgi.out : v12.heap[gi]? = some (.cells #[.int .i64 kd, .string b, .bool true, .string (⟨#[]⟩ : ByteArray), .int .i64 0, .slice none 0 0] 24 (0, 0))); replace HB := A0_.mk (by rw [hw]; repeat (first | (with_reducible first | exact HB.out | apply wA | apply pN | apply wD | refine wS ?_ GEgR.out | refine wS ?_ GEgr.out | refine wS ?_ GEgi.out) | exact HB.out) : Below w.heap.size w v12); clear hcz19 hfz19 hcz20 hfz20 hcz21 hfz21 hcz22 hfz22 hcz23 hfz23 hcz24 hfz24; clear hw; obtain ⟨hcz25, hcz26, hcz27, hcz28, hcz29, hcz30, hfz25, hfz26, hfz27, hfz28, hfz29, hfz30⟩ := SQ.cs6 BKgi.out))
   with_reducible refine (PNor.n9number.calls gr s2 c s3 w _ (is74 SQ.kw GEgr.out) SQ.bw H3.out).mono ?_
   rintro e v8 ⟨rfl, hi_, hb2_, hk_⟩
   replace BKgR := A0_.mk ((hk_.2 gR (bL (g := gR) SQ.kw) NBgR_gr.out (by simp)).trans SQ.kw)
   replace BKgr := A0_.mk hi_.1
   replace BKgi := A0_.mk ((hk_.2 gi (bL (g := gi) SQ.kw) NBgi_gr.out (by simp)).trans SQ.kw)
   replace HB := A0_.mk hb2_
   clear hcz25 hfz25 hcz26 hfz26 hcz27 hfz27 hcz28 hfz28 hcz29 hfz29 hcz30 hfz30
   clear hi_ hb2_ hk_
   obtain ⟨hcz31, hcz32, hcz33, hcz34, hcz35, hcz36, hfz31, hfz32, hfz33, hfz34, hfz35, hfz36⟩ := SQ.cs6 BKgi.out
   go_wp2_with fail
   with_reducible refine (PNor.n9take.calls gr s3 c d s4 w _ (is74 SQ.kw GEgr.out) SQ.bw H4.out).mono ?_
   rintro e v9 ⟨rfl, hi_, hb2_, hk_⟩
   replace BKgR := A0_.mk ((hk_.2 gR (bL (g := gR) SQ.kw) NBgR_gr.out (by simp)).trans SQ.kw)
   replace BKgr := A0_.mk hi_.1
   replace BKgi := A0_.mk ((hk_.2 gi (bL (g := gi) SQ.kw) NBgi_gr.out (by simp)).trans SQ.kw)
   replace HB := A0_.mk hb2_
   clear hcz31 hfz31 hcz32 hfz32 hcz33 hfz33 hcz34 hfz34 hcz35 hfz35 hcz36 hfz36
   clear hi_ hb2_ hk_
   obtain ⟨hcz37, hcz38, hcz39, hcz40, hcz41, hcz42, hfz37, hfz38, hfz39, hfz40, hfz41, hfz42⟩ := SQ.cs6 BKgi.out
   go_wp2_with ((with_reducible refine gS (t := 9) (p := 23) rfl ?_); refine sE (t := 9) (p := 23) (v := ?vo_v13) (w1 := (v9.setCell ⟨gi, 3, none⟩ (.string d))) ?hg ?ho ?hn ?hr ?_; (case ho => rfl); (case hg => rfl); (case hn => rfl); (case hr => first | (go_simp; done) | (go_simp; rfl)); intro v13 hw; replace BKgR := A0_.mk (by rw [hw]; (with_reducible repeat (first | refine bN ?_ _ | refine bD ?_ | refine bA ?_ _)); refine bR ?_ NBgR_gi.out _; (with_reducible repeat (first | refine bN ?_ _ | refine bD ?_ | refine bA ?_ _)); exact BKgR.out : v13.heap[gR]? = some (.cells #[.int .i64 0, .string (⟨#[]⟩ : ByteArray), .bool false, .string (⟨#[]⟩ : ByteArray), .int .i64 0, .slice none 0 0] 24 (0, 0))); replace BKgr := A0_.mk (by rw [hw]; (with_reducible repeat (first | refine bN ?_ _ | refine bD ?_ | refine bA ?_ _)); refine bR ?_ NBgr_gi.out _; (with_reducible repeat (first | refine bN ?_ _ | refine bD ?_ | refine bA ?_ _)); exact BKgr.out : v13.heap[gr]? = some (.cells #[.string s4] 74 (0, 0))); replace BKgi := A0_.mk (by rw [hw]; (with_reducible repeat (first | refine bN ?_ _ | refine bD ?_ | refine bA ?_ _)); refine bP (cs := #[.int .i64 kd, .string b, .bool true, .string (⟨#[]⟩ : ByteArray), .int .i64 0, .slice none 0 0]) ?_ 3 _ rfl; (with_reducible repeat (first | refine bN ?_ _ | refine bD ?_ | refine bA ?_ _)); exact BKgi.out : v13.heap[gi]? = some (.cells #[.int .i64 kd, .string b, .bool true, .string d, .int .i64 0, .slice none 0 0] 24 (0, 0))); replace HB := A0_.mk (by rw [hw]; repeat (first | (with_reducible first | exact HB.out | apply wA | apply pN | apply wD | refine wS ?_ GEgR.out | refine wS ?_ GEgr.out | refine wS ?_ GEgi.out) | exact HB.out) : Below w.heap.size w v13); clear hcz37 hfz37 hcz38 hfz38 hcz39 hfz39 hcz40 hfz40 hcz41 hfz41 hcz42 hfz42; clear hw; obtain ⟨hcz43, hcz44, hcz45, hcz46, hcz47, hcz48, hfz43, hfz44, hfz45, hfz46, hfz47, hfz48⟩ := SQ.cs6 BKgi.out)
   go_meet
   case rel => exact ⟨b, true, d, 0, s4, l, s9, ⟨H9.out⟩, ⟨HE.out⟩, ⟨BKgR.out⟩, ⟨BKgr.out⟩, ⟨BKgi.out⟩, ⟨HB.out⟩⟩
  by_cases k2 : kd = 2
  ·rw [if_neg k1, if_pos k2] at h
   obtain ⟨⟨b, s2⟩, h_, h⟩ := Option.bind_eq_some_iff.1 h
   dsimp only at h
   have H2 := Lib.hid h_; clear h_
   obtain ⟨⟨l, s9⟩, h_, h⟩ := Option.bind_eq_some_iff.1 h
   have H9 := Lib.hid h_; clear h_
   dsimp only at h
   have HE := Lib.hid h; clear h
   have f1 : (kd == 1) = false := beq_eq_false_iff_ne.2 k1
   have f2 : (kd == 2) = true := beq_iff_eq.2 k2
   clear k1 k2
   first | rw [f1] | skip
   go_wp2_with fail
   with_reducible refine (PNor.n9path.calls k gr s1 b s2 w _ (is74 SQ.kw GEgr.out) SQ.bw H2.out).mono ?_
   rintro e v6 ⟨rfl, hi_, hb2_, hk_⟩
   replace BKgR := A0_.mk ((hk_.2 gR (bL (g := gR) SQ.kw) NBgR_gr.out (by simp)).trans SQ.kw)
   replace BKgr := A0_.mk hi_.1
   replace BKgi := A0_.mk ((hk_.2 gi (bL (g := gi) SQ.kw) NBgi_gr.out (by simp)).trans SQ.kw)
   replace HB := A0_.mk hb2_
   clear hcz7 hfz7 hcz8 hfz8 hcz9 hfz9 hcz10 hfz10 hcz11 hfz11 hcz12 hfz12
   clear hi_ hb2_ hk_
   obtain ⟨hcz13, hcz14, hcz15, hcz16, hcz17, hcz18, hfz13, hfz14, hfz15, hfz16, hfz17, hfz18⟩ := SQ.cs6 BKgi.out
   go_wp2_with (first | ((with_reducible refine gS (t := 9) (p := 28) rfl ?_); refine sE (t := 9) (p := 28) (v := ?vo_v14) (w1 := (v6.setCell ⟨gi, 1, none⟩ (.string b))) ?hg ?ho ?hn ?hr ?_; (case ho => rfl); (case hg => rfl); (case hn => rfl); (case hr => first | (go_simp; done) | (go_simp; rfl)); intro v14 hw; replace BKgR := A0_.mk (by rw [hw]; (with_reducible repeat (first | refine bN ?_ _ | refine bD ?_ | refine bA ?_ _)); refine bR ?_ NBgR_gi.out _; (with_reducible repeat (first | refine bN ?_ _ | refine bD ?_ | refine bA ?_ _)); exact BKgR.out : v14.heap[gR]? = some (.cells #[.int .i64 0, .string (⟨#[]⟩ : ByteArray), .bool false, .string (⟨#[]⟩ : ByteArray), .int .i64 0, .slice none 0 0] 24 (0, 0))); replace BKgr := A0_.mk (by rw [hw]; (with_reducible repeat (first | refine bN ?_ _ | refine bD ?_ | refine bA ?_ _)); refine bR ?_ NBgr_gi.out _; (with_reducible repeat (first | refine bN ?_ _ | refine bD ?_ | refine bA ?_ _)); exact BKgr.out : v14.heap[gr]? = some (.cells #[.string s2] 74 (0, 0))); replace BKgi := A0_.mk (by rw [hw]; (with_reducible repeat (first | refine bN ?_ _ | refine bD ?_ | refine bA ?_ _)); refine bP (cs := #[.int .i64 kd, .string (⟨#[]⟩ : ByteArray), .bool false, .string (⟨#[]⟩ : ByteArray), .int .i64 0, .slice none 0 0]) ?_ 1 _ rfl; (with_reducible repeat (first | refine bN ?_ _ | refine bD ?_ | refine bA ?_ _)); exact BKgi.out : v14.heap[gi]? = some (.cells #[.int .i64 kd, .string b, .bool false, .string (⟨#[]⟩ : ByteArray), .int .i64 0, .slice none 0 0] 24 (0, 0))); replace HB := A0_.mk (by rw [hw]; repeat (first | (with_reducible first | exact HB.out | apply wA | apply pN | apply wD | refine wS ?_ GEgR.out | refine wS ?_ GEgr.out | refine wS ?_ GEgi.out) | exact HB.out) : Below w.heap.size w v14); clear hcz13 hfz13 hcz14 hfz14 hcz15 hfz15 hcz16 hfz16 hcz17 hfz17 hcz18 hfz18; clear hw; obtain ⟨hcz19, hcz20, hcz21, hcz22, hcz23, hcz24, hfz19, hfz20, hfz21, hfz22, hfz23, hfz24⟩ := SQ.cs6 BKgi.out) | ((with_reducible refine gS (t := 3) (p := 29) rfl ?_); refine sE (t := 3) (p := 29) (v := ?vo_v15) (w1 := (v14.setCell ⟨gi, 4, none⟩ (.int .i64 1))) ?hg ?ho ?hn ?hr ?_; (case ho => rfl); (case hg => rfl); (case hn => rfl); (case hr => first | (go_simp; done) | (go_simp; rfl)); intro v15 hw; replace BKgR := A0_.mk (by rw [hw]; (with_reducible repeat (first | refine bN ?_ _ | refine bD ?_ | refine bA ?_ _)); refine bR ?_ NBgR_gi.out _; (with_reducible repeat (first | refine bN ?_ _ | refine bD ?_ | refine bA ?_ _)); exact BKgR.out : v15.heap[gR]? = some (.cells #[.int .i64 0, .string (⟨#[]⟩ : ByteArray), .bool false, .string (⟨#[]⟩ : ByteArray), .int .i64 0, .slice none 0 0] 24 (0, 0))); replace BKgr := A0_.mk (by rw [hw]; (with_reducible repeat (first | refine bN ?_ _ | refine bD ?_ | refine bA ?_ _)); refine bR ?_ NBgr_gi.out _; (with_reducible repeat (first | refine bN ?_ _ | refine bD ?_ | refine bA ?_ _)); exact BKgr.out : v15.heap[gr]? = some (.cells #[.string s2] 74 (0, 0))); replace BKgi := A0_.mk (by rw [hw]; (with_reducible repeat (first | refine bN ?_ _ | refine bD ?_ | refine bA ?_ _)); refine bP (cs := #[.int .i64 kd, .string b, .bool false, .string (⟨#[]⟩ : ByteArray), .int .i64 0, .slice none 0 0]) ?_ 4 _ rfl; (with_reducible repeat (first | refine bN ?_ _ | refine bD ?_ | refine bA ?_ _)); exact BKgi.out : v15.heap[gi]? = some (.cells #[.int .i64 kd, .string b, .bool false, .string (⟨#[]⟩ : ByteArray), .int .i64 1, .slice none 0 0] 24 (0, 0))); replace HB := A0_.mk (by rw [hw]; repeat (first | (with_reducible first | exact HB.out | apply wA | apply pN | apply wD | refine wS ?_ GEgR.out | refine wS ?_ GEgr.out | refine wS ?_ GEgi.out) | exact HB.out) : Below w.heap.size w v15); clear hcz19 hfz19 hcz20 hfz20 hcz21 hfz21 hcz22 hfz22 hcz23 hfz23 hcz24 hfz24; clear hw; obtain ⟨hcz25, hcz26, hcz27, hcz28, hcz29, hcz30, hfz25, hfz26, hfz27, hfz28, hfz29, hfz30⟩ := SQ.cs6 BKgi.out))
   go_meet
   case rel => exact ⟨b, false, (⟨#[]⟩ : ByteArray), 1, s2, l, s9, ⟨H9.out⟩, ⟨HE.out⟩, ⟨BKgR.out⟩, ⟨BKgr.out⟩, ⟨BKgi.out⟩, ⟨HB.out⟩⟩
  by_cases k3 : kd = 3
  rotate_left
  ·rw [if_neg k1, if_neg k2, if_neg k3] at h
   obtain ⟨⟨l, s9⟩, h_, h⟩ := Option.bind_eq_some_iff.1 h
   have H9 := Lib.hid h_; clear h_
   dsimp only at h
   have HE := Lib.hid h; clear h
   have f1 : (kd == 1) = false := beq_eq_false_iff_ne.2 k1
   have f2 : (kd == 2) = false := beq_eq_false_iff_ne.2 k2
   have f3 : (kd == 3) = false := beq_eq_false_iff_ne.2 k3
   clear k1 k2 k3
   first | rw [f1] | skip
   go_wp2_with fail
   go_meet
   case rel => exact ⟨(⟨#[]⟩ : ByteArray), false, (⟨#[]⟩ : ByteArray), 0, s1, l, s9, ⟨H9.out⟩, ⟨HE.out⟩, ⟨BKgR.out⟩, ⟨BKgr.out⟩, ⟨BKgi.out⟩, ⟨HB.out⟩⟩
  rw [if_neg k1, if_neg k2, if_pos k3] at h
  obtain ⟨⟨b, s2⟩, h_, h⟩ := Option.bind_eq_some_iff.1 h
  dsimp only at h
  have H2 := Lib.hid h_; clear h_
  obtain ⟨⟨c, s3⟩, h_, h⟩ := Option.bind_eq_some_iff.1 h
  dsimp only at h
  have H3 := Lib.hid h_; clear h_
  obtain ⟨⟨d, s4⟩, h_, h⟩ := Option.bind_eq_some_iff.1 h
  dsimp only at h
  have H4 := Lib.hid h_; clear h_
  have f1 : (kd == 1) = false := beq_eq_false_iff_ne.2 k1
  have f2 : (kd == 2) = false := beq_eq_false_iff_ne.2 k2
  have f3 : (kd == 3) = true := beq_iff_eq.2 k3
  clear k1 k2 k3
  by_cases k4 : d = 1
  ·rw [if_pos k4] at h
   obtain ⟨⟨m, s5⟩, h_, h⟩ := Option.bind_eq_some_iff.1 h
   dsimp only at h
   have H5 := Lib.hid h_; clear h_
   obtain ⟨⟨v, s6⟩, h_, h⟩ := Option.bind_eq_some_iff.1 h
   dsimp only at h
   have H6 := Lib.hid h_; clear h_
   obtain ⟨⟨l, s9⟩, h_, h⟩ := Option.bind_eq_some_iff.1 h
   have H9 := Lib.hid h_; clear h_
   dsimp only at h
   have HE := Lib.hid h; clear h
   have f4 : (d == 1) = true := beq_iff_eq.2 k4
   clear k4
   first | rw [f1] | skip
   go_wp2_with fail
   with_reducible refine (PNor.n9number.calls gr s1 b s2 w _ (is74 SQ.kw GEgr.out) SQ.bw H2.out).mono ?_
   rintro e v6 ⟨rfl, hi_, hb2_, hk_⟩
   replace BKgR := A0_.mk ((hk_.2 gR (bL (g := gR) SQ.kw) NBgR_gr.out (by simp)).trans SQ.kw)
   replace BKgr := A0_.mk hi_.1
   replace BKgi := A0_.mk ((hk_.2 gi (bL (g := gi) SQ.kw) NBgi_gr.out (by simp)).trans SQ.kw)
   replace HB := A0_.mk hb2_
   clear hcz7 hfz7 hcz8 hfz8 hcz9 hfz9 hcz10 hfz10 hcz11 hfz11 hcz12 hfz12
   clear hi_ hb2_ hk_
   obtain ⟨hcz13, hcz14, hcz15, hcz16, hcz17, hcz18, hfz13, hfz14, hfz15, hfz16, hfz17, hfz18⟩ := SQ.cs6 BKgi.out
   go_wp2_with ((with_reducible refine gS (t := 3) (p := 35) rfl ?_); refine sE (t := 3) (p := 35) (v := ?vo_v16) (w1 := (v6.setCell ⟨gi, 4, none⟩ (.int .i64 (wrap64 (b * 256))))) ?hg ?ho ?hn ?hr ?_; (case ho => rfl); (case hg => rfl); (case hn => rfl); (case hr => first | (go_simp; done) | (go_simp; rfl)); intro v16 hw; replace BKgR := A0_.mk (by rw [hw]; (with_reducible repeat (first | refine bN ?_ _ | refine bD ?_ | refine bA ?_ _)); refine bR ?_ NBgR_gi.out _; (with_reducible repeat (first | refine bN ?_ _ | refine bD ?_ | refine bA ?_ _)); exact BKgR.out : v16.heap[gR]? = some (.cells #[.int .i64 0, .string (⟨#[]⟩ : ByteArray), .bool false, .string (⟨#[]⟩ : ByteArray), .int .i64 0, .slice none 0 0] 24 (0, 0))); replace BKgr := A0_.mk (by rw [hw]; (with_reducible repeat (first | refine bN ?_ _ | refine bD ?_ | refine bA ?_ _)); refine bR ?_ NBgr_gi.out _; (with_reducible repeat (first | refine bN ?_ _ | refine bD ?_ | refine bA ?_ _)); exact BKgr.out : v16.heap[gr]? = some (.cells #[.string s2] 74 (0, 0))); replace BKgi := A0_.mk (by rw [hw]; (with_reducible repeat (first | refine bN ?_ _ | refine bD ?_ | refine bA ?_ _)); refine bP (cs := #[.int .i64 kd, .string (⟨#[]⟩ : ByteArray), .bool false, .string (⟨#[]⟩ : ByteArray), .int .i64 0, .slice none 0 0]) ?_ 4 _ rfl; (with_reducible repeat (first | refine bN ?_ _ | refine bD ?_ | refine bA ?_ _)); exact BKgi.out : v16.heap[gi]? = some (.cells #[.int .i64 kd, .string (⟨#[]⟩ : ByteArray), .bool false, .string (⟨#[]⟩ : ByteArray), .int .i64 (wrap64 (b * 256)), .slice none 0 0] 24 (0, 0))); replace HB := A0_.mk (by rw [hw]; repeat (first | (with_reducible first | exact HB.out | apply wA | apply pN | apply wD | refine wS ?_ GEgR.out | refine wS ?_ GEgr.out | refine wS ?_ GEgi.out) | exact HB.out) : Below w.heap.size w v16); clear hcz13 hfz13 hcz14 hfz14 hcz15 hfz15 hcz16 hfz16 hcz17 hfz17 hcz18 hfz18; clear hw; obtain ⟨hcz19, hcz20, hcz21, hcz22, hcz23, hcz24, hfz19, hfz20, hfz21, hfz22, hfz23, hfz24⟩ := SQ.cs6 BKgi.out)
   refine start_ (n := 7) (S := (fun w' => w'.cell? ⟨gi, 4, none⟩ = some (.int .i64 (wrap64 (b * 256))))) (ds := [6]) #[false, false, false, false, false, false, false] (by kernel_rfl) rfl rfl ((bC BKgi.out 4).trans rfl) (fun hHeld => ?_)
   refine pure_ (i := 0) (N := (some 36)) (v := ?_) (a' := ?_) #[true, false, false, false, false, false, false] rfl rfl (by kernel_rfl) (fun _ _ _ h => h) (Or.inl ⟨by rfl, ?_⟩) ?_ ?_
   rotate_left
   ·intro w'
    go_simp
    with_reducible rfl
   rotate_left
   ·simp only [Act.put, List.setIfInBounds_toArray, List.set_cons_zero, List.set_cons_succ]
    rfl
   refine take_ (i := 1) (N := (some 37)) (v := ?_) (a' := ?_) #[true, true, false, false, false, false, false] rfl rfl (by kernel_rfl) (fun _ _ _ h => h) (Or.inl ⟨by rfl, ?_⟩) hHeld ?_ ?_
   rotate_left
   ·intro w' hS_
    go_simp
    with_reducible rfl
   rotate_left
   ·simp only [Act.put, List.setIfInBounds_toArray, List.set_cons_zero, List.set_cons_succ]
    rfl
   refine pure_ (i := 2) (N := (some 38)) (v := ?_) (a' := ?_) #[true, true, true, false, false, false, false] rfl rfl (by kernel_rfl) (fun _ _ _ h => h) (Or.inl ⟨by rfl, ?_⟩) ?_ ?_
   rotate_left
   ·intro w'
    go_simp
    with_reducible rfl
   rotate_left
   ·simp only [Act.put, List.setIfInBounds_toArray, List.set_cons_zero, List.set_cons_succ]
    rfl
   refine one_ (i := 3) (N := some 39) #[true, true, true, true, false, false, false] rfl rfl (by kernel_rfl) (by decide) (fun K hK => ?_)
   refine goes_ Tryd.func39 (by kernel_rfl) rfl #[.pointer (some ⟨gr, 0, none⟩)] (by rfl) rfl rfl (by (try simp only [List.map_toArray, List.map_cons, List.map_nil]); first | done | rfl) ?_
   with_reducible refine (PNor.n9number.calls gr s2 c s3 w _ (is74 SQ.kw GEgr.out) SQ.bw H3.out).mono ?_
   rintro e v17 ⟨rfl, hi_, hb2_, hk_⟩
   replace BKgR := A0_.mk ((hk_.2 gR (bL (g := gR) SQ.kw) NBgR_gr.out (by simp)).trans SQ.kw)
   replace BKgr := A0_.mk hi_.1
   replace BKgi := A0_.mk ((hk_.2 gi (bL (g := gi) SQ.kw) NBgi_gr.out (by simp)).trans SQ.kw)
   replace HB := A0_.mk hb2_
   clear hcz19 hfz19 hcz20 hfz20 hcz21 hfz21 hcz22 hfz22 hcz23 hfz23 hcz24 hfz24
   clear hi_ hb2_ hk_
   obtain ⟨hcz25, hcz26, hcz27, hcz28, hcz29, hcz30, hfz25, hfz26, hfz27, hfz28, hfz29, hfz30⟩ := SQ.cs6 BKgi.out
   refine ⟨_, rfl, ?_⟩
   refine hK.out _ _ ((bC BKgi.out 4).trans rfl) (fun hHeld => ?_)
   clear hK K
   refine norm_ (a' := ?_) ?_ ?_
   rotate_left
   ·show Act.put _ (some 39) _ = _
    simp only [Act.put, List.setIfInBounds_toArray, List.set_cons_zero, List.set_cons_succ]
    rfl
   refine pure_ (i := 4) (N := (some 40)) (v := ?_) (a' := ?_) #[true, true, true, true, true, false, false] rfl rfl (by kernel_rfl) (fun _ _ _ h => h) (Or.inl ⟨by rfl, ?_⟩) ?_ ?_
   rotate_left
   ·intro w'
    go_simp
    with_reducible rfl
   rotate_left
   ·simp only [Act.put, List.setIfInBounds_toArray, List.set_cons_zero, List.set_cons_succ]
    rfl
   refine pure_ (i := 5) (N := (some 41)) (v := ?_) (a' := ?_) #[true, true, true, true, true, true, false] rfl rfl (by kernel_rfl) (fun _ _ _ h => h) (Or.inl ⟨by rfl, ?_⟩) ?_ ?_
   rotate_left
   ·intro w'
    go_simp
    with_reducible rfl
   rotate_left
   ·simp only [Act.put, List.setIfInBounds_toArray, List.set_cons_zero, List.set_cons_succ]
    rfl
   refine last_ (i := 6) (N := none) #[true, true, true, true, true, true, true] rfl rfl (by kernel_rfl) (by decide) (fun K hK => ?_)
   refine skip_ (w1 := ?_) (by rfl) rfl ?_ ?_
   rotate_left
   ·go_simp
    rfl
   refine hK.out _ _ ?_
   clear hK K
   refine done_ (by kernel_rfl) ?_
   obtain ⟨v18, hW_⟩ : ∃ W_, W_ = v17.setCell ⟨gi, 4, none⟩ (.int .i64 (Go.bits .or .i64 (wrap64 (b * 256)) c)) := ⟨_, rfl⟩
   have n0_ := A0_.mk (by rw [hW_]; exact bR BKgR.out NBgR_gi.out _ : v18.heap[gR]? = some (.cells #[.int .i64 0, .string (⟨#[]⟩ : ByteArray), .bool false, .string (⟨#[]⟩ : ByteArray), .int .i64 0, .slice none 0 0] 24 (0, 0)))
   have n1_ := A0_.mk (by rw [hW_]; exact bR BKgr.out NBgr_gi.out _ : v18.heap[gr]? = some (.cells #[.string s3] 74 (0, 0)))
   have n2_ := A0_.mk (by rw [hW_]; exact bP (cs := #[.int .i64 kd, .string (⟨#[]⟩ : ByteArray), .bool false, .string (⟨#[]⟩ : ByteArray), .int .i64 (wrap64 (b * 256)), .slice none 0 0]) BKgi.out 4 _ rfl : v18.heap[gi]? = some (.cells #[.int .i64 kd, .string (⟨#[]⟩ : ByteArray), .bool false, .string (⟨#[]⟩ : ByteArray), .int .i64 (Go.bits .or .i64 (wrap64 (b * 256)) c), .slice none 0 0] 24 (0, 0)))
   have n3_ := A0_.mk (by rw [hW_]; exact wS HB.out GEgi.out : Below w.heap.size w v18)
   rw [← hW_]
   clear hcz25 hfz25 hcz26 hfz26 hcz27 hfz27 hcz28 hfz28 hcz29 hfz29 hcz30 hfz30
   clear BKgR
   clear BKgr
   clear BKgi
   clear HB
   have BKgR := n0_; clear n0_
   have BKgr := n1_; clear n1_
   have BKgi := n2_; clear n2_
   have HB := n3_; clear n3_
   clear hW_
   obtain ⟨hcz31, hcz32, hcz33, hcz34, hcz35, hcz36, hfz31, hfz32, hfz33, hfz34, hfz35, hfz36⟩ := SQ.cs6 BKgi.out
   go_wp2_with fail
   with_reducible refine (PNor.n9number.calls gr s3 d s4 w _ (is74 SQ.kw GEgr.out) SQ.bw H4.out).mono ?_
   rintro e v19 ⟨rfl, hi_, hb2_, hk_⟩
   replace BKgR := A0_.mk ((hk_.2 gR (bL (g := gR) SQ.kw) NBgR_gr.out (by simp)).trans SQ.kw)
   replace BKgr := A0_.mk hi_.1
   replace BKgi := A0_.mk ((hk_.2 gi (bL (g := gi) SQ.kw) NBgi_gr.out (by simp)).trans SQ.kw)
   replace HB := A0_.mk hb2_
   clear hcz31 hfz31 hcz32 hfz32 hcz33 hfz33 hcz34 hfz34 hcz35 hfz35 hcz36 hfz36
   clear hi_ hb2_ hk_
   obtain ⟨hcz37, hcz38, hcz39, hcz40, hcz41, hcz42, hfz37, hfz38, hfz39, hfz40, hfz41, hfz42⟩ := SQ.cs6 BKgi.out
   go_wp2_with ((with_reducible refine gS (t := 4) (p := 45) rfl ?_); refine sE (t := 4) (p := 45) (v := ?vo_v20) (w1 := (v19.setCell ⟨gi, 2, none⟩ (.bool true))) ?hg ?ho ?hn ?hr ?_; (case ho => rfl); (case hg => rfl); (case hn => rfl); (case hr => first | (go_simp; done) | (go_simp; rfl)); intro v20 hw; replace BKgR := A0_.mk (by rw [hw]; (with_reducible repeat (first | refine bN ?_ _ | refine bD ?_ | refine bA ?_ _)); refine bR ?_ NBgR_gi.out _; (with_reducible repeat (first | refine bN ?_ _ | refine bD ?_ | refine bA ?_ _)); exact BKgR.out : v20.heap[gR]? = some (.cells #[.int .i64 0, .string (⟨#[]⟩ : ByteArray), .bool false, .string (⟨#[]⟩ : ByteArray), .int .i64 0, .slice none 0 0] 24 (0, 0))); replace BKgr := A0_.mk (by rw [hw]; (with_reducible repeat (first | refine bN ?_ _ | refine bD ?_ | refine bA ?_ _)); refine bR ?_ NBgr_gi.out _; (with_reducible repeat (first | refine bN ?_ _ | refine bD ?_ | refine bA ?_ _)); exact BKgr.out : v20.heap[gr]? = some (.cells #[.string s4] 74 (0, 0))); replace BKgi := A0_.mk (by rw [hw]; (with_reducible repeat (first | refine bN ?_ _ | refine bD ?_ | refine bA ?_ _)); refine bP (cs := #[.int .i64 kd, .string (⟨#[]⟩ : ByteArray), .bool false, .string (⟨#[]⟩ : ByteArray), .int .i64 (Go.bits .or .i64 (wrap64 (b * 256)) c), .slice none 0 0]) ?_ 2 _ rfl; (with_reducible repeat (first | refine bN ?_ _ | refine bD ?_ | refine bA ?_ _)); exact BKgi.out : v20.heap[gi]? = some (.cells #[.int .i64 kd, .string (⟨#[]⟩ : ByteArray), .bool true, .string (⟨#[]⟩ : ByteArray), .int .i64 (Go.bits .or .i64 (wrap64 (b * 256)) c), .slice none 0 0] 24 (0, 0))); replace HB := A0_.mk (by rw [hw]; repeat (first | (with_reducible first | exact HB.out | apply wA | apply pN | apply wD | refine wS ?_ GEgR.out | refine wS ?_ GEgr.out | refine wS ?_ GEgi.out) | exact HB.out) : Below w.heap.size w v20); clear hcz37 hfz37 hcz38 hfz38 hcz39 hfz39 hcz40 hfz40 hcz41 hfz41 hcz42 hfz42; clear hw; obtain ⟨hcz43, hcz44, hcz45, hcz46, hcz47, hcz48, hfz43, hfz44, hfz45, hfz46, hfz47, hfz48⟩ := SQ.cs6 BKgi.out)
   with_reducible refine (PNor.n9number.calls gr s4 m s5 w _ (is74 SQ.kw GEgr.out) SQ.bw H5.out).mono ?_
   rintro e v21 ⟨rfl, hi_, hb2_, hk_⟩
   replace BKgR := A0_.mk ((hk_.2 gR (bL (g := gR) SQ.kw) NBgR_gr.out (by simp)).trans SQ.kw)
   replace BKgr := A0_.mk hi_.1
   replace BKgi := A0_.mk ((hk_.2 gi (bL (g := gi) SQ.kw) NBgi_gr.out (by simp)).trans SQ.kw)
   replace HB := A0_.mk hb2_
   clear hcz43 hfz43 hcz44 hfz44 hcz45 hfz45 hcz46 hfz46 hcz47 hfz47 hcz48 hfz48
   clear hi_ hb2_ hk_
   obtain ⟨hcz49, hcz50, hcz51, hcz52, hcz53, hcz54, hfz49, hfz50, hfz51, hfz52, hfz53, hfz54⟩ := SQ.cs6 BKgi.out
   go_wp2_with fail
   with_reducible refine (PNor.n9take.calls gr s5 m v s6 w _ (is74 SQ.kw GEgr.out) SQ.bw H6.out).mono ?_
   rintro e v22 ⟨rfl, hi_, hb2_, hk_⟩
   replace BKgR := A0_.mk ((hk_.2 gR (bL (g := gR) SQ.kw) NBgR_gr.out (by simp)).trans SQ.kw)
   replace BKgr := A0_.mk hi_.1
   replace BKgi := A0_.mk ((hk_.2 gi (bL (g := gi) SQ.kw) NBgi_gr.out (by simp)).trans SQ.kw)
   replace HB := A0_.mk hb2_
   clear hcz49 hfz49 hcz50 hfz50 hcz51 hfz51 hcz52 hfz52 hcz53 hfz53 hcz54 hfz54
   clear hi_ hb2_ hk_
   obtain ⟨hcz55, hcz56, hcz57, hcz58, hcz59, hcz60, hfz55, hfz56, hfz57, hfz58, hfz59, hfz60⟩ := SQ.cs6 BKgi.out
   go_wp2_with ((with_reducible refine gS (t := 9) (p := 52) rfl ?_); refine sE (t := 9) (p := 52) (v := ?vo_v23) (w1 := (v22.setCell ⟨gi, 3, none⟩ (.string v))) ?hg ?ho ?hn ?hr ?_; (case ho => rfl); (case hg => rfl); (case hn => rfl); (case hr => first | (go_simp; done) | (go_simp; rfl)); intro v23 hw; replace BKgR := A0_.mk (by rw [hw]; (with_reducible repeat (first | refine bN ?_ _ | refine bD ?_ | refine bA ?_ _)); refine bR ?_ NBgR_gi.out _; (with_reducible repeat (first | refine bN ?_ _ | refine bD ?_ | refine bA ?_ _)); exact BKgR.out : v23.heap[gR]? = some (.cells #[.int .i64 0, .string (⟨#[]⟩ : ByteArray), .bool false, .string (⟨#[]⟩ : ByteArray), .int .i64 0, .slice none 0 0] 24 (0, 0))); replace BKgr := A0_.mk (by rw [hw]; (with_reducible repeat (first | refine bN ?_ _ | refine bD ?_ | refine bA ?_ _)); refine bR ?_ NBgr_gi.out _; (with_reducible repeat (first | refine bN ?_ _ | refine bD ?_ | refine bA ?_ _)); exact BKgr.out : v23.heap[gr]? = some (.cells #[.string s6] 74 (0, 0))); replace BKgi := A0_.mk (by rw [hw]; (with_reducible repeat (first | refine bN ?_ _ | refine bD ?_ | refine bA ?_ _)); refine bP (cs := #[.int .i64 kd, .string (⟨#[]⟩ : ByteArray), .bool true, .string (⟨#[]⟩ : ByteArray), .int .i64 (Go.bits .or .i64 (wrap64 (b * 256)) c), .slice none 0 0]) ?_ 3 _ rfl; (with_reducible repeat (first | refine bN ?_ _ | refine bD ?_ | refine bA ?_ _)); exact BKgi.out : v23.heap[gi]? = some (.cells #[.int .i64 kd, .string (⟨#[]⟩ : ByteArray), .bool true, .string v, .int .i64 (Go.bits .or .i64 (wrap64 (b * 256)) c), .slice none 0 0] 24 (0, 0))); replace HB := A0_.mk (by rw [hw]; repeat (first | (with_reducible first | exact HB.out | apply wA | apply pN | apply wD | refine wS ?_ GEgR.out | refine wS ?_ GEgr.out | refine wS ?_ GEgi.out) | exact HB.out) : Below w.heap.size w v23); clear hcz55 hfz55 hcz56 hfz56 hcz57 hfz57 hcz58 hfz58 hcz59 hfz59 hcz60 hfz60; clear hw; obtain ⟨hcz61, hcz62, hcz63, hcz64, hcz65, hcz66, hfz61, hfz62, hfz63, hfz64, hfz65, hfz66⟩ := SQ.cs6 BKgi.out)
   go_meet
   case rel => exact ⟨(⟨#[]⟩ : ByteArray), true, v, (Go.bits .or .i64 (wrap64 (b * 256)) c), s6, l, s9, ⟨H9.out⟩, ⟨HE.out⟩, ⟨BKgR.out⟩, ⟨BKgr.out⟩, ⟨BKgi.out⟩, ⟨HB.out⟩⟩
  ·rw [if_neg k4] at h
   obtain ⟨⟨l, s9⟩, h_, h⟩ := Option.bind_eq_some_iff.1 h
   have H9 := Lib.hid h_; clear h_
   dsimp only at h
   have HE := Lib.hid h; clear h
   have f4 : (d == 1) = false := beq_eq_false_iff_ne.2 k4
   clear k4
   first | rw [f1] | skip
   go_wp2_with fail
   with_reducible refine (PNor.n9number.calls gr s1 b s2 w _ (is74 SQ.kw GEgr.out) SQ.bw H2.out).mono ?_
   rintro e v6 ⟨rfl, hi_, hb2_, hk_⟩
   replace BKgR := A0_.mk ((hk_.2 gR (bL (g := gR) SQ.kw) NBgR_gr.out (by simp)).trans SQ.kw)
   replace BKgr := A0_.mk hi_.1
   replace BKgi := A0_.mk ((hk_.2 gi (bL (g := gi) SQ.kw) NBgi_gr.out (by simp)).trans SQ.kw)
   replace HB := A0_.mk hb2_
   clear hcz7 hfz7 hcz8 hfz8 hcz9 hfz9 hcz10 hfz10 hcz11 hfz11 hcz12 hfz12
   clear hi_ hb2_ hk_
   obtain ⟨hcz13, hcz14, hcz15, hcz16, hcz17, hcz18, hfz13, hfz14, hfz15, hfz16, hfz17, hfz18⟩ := SQ.cs6 BKgi.out
   go_wp2_with ((with_reducible refine gS (t := 3) (p := 35) rfl ?_); refine sE (t := 3) (p := 35) (v := ?vo_v24) (w1 := (v6.setCell ⟨gi, 4, none⟩ (.int .i64 (wrap64 (b * 256))))) ?hg ?ho ?hn ?hr ?_; (case ho => rfl); (case hg => rfl); (case hn => rfl); (case hr => first | (go_simp; done) | (go_simp; rfl)); intro v24 hw; replace BKgR := A0_.mk (by rw [hw]; (with_reducible repeat (first | refine bN ?_ _ | refine bD ?_ | refine bA ?_ _)); refine bR ?_ NBgR_gi.out _; (with_reducible repeat (first | refine bN ?_ _ | refine bD ?_ | refine bA ?_ _)); exact BKgR.out : v24.heap[gR]? = some (.cells #[.int .i64 0, .string (⟨#[]⟩ : ByteArray), .bool false, .string (⟨#[]⟩ : ByteArray), .int .i64 0, .slice none 0 0] 24 (0, 0))); replace BKgr := A0_.mk (by rw [hw]; (with_reducible repeat (first | refine bN ?_ _ | refine bD ?_ | refine bA ?_ _)); refine bR ?_ NBgr_gi.out _; (with_reducible repeat (first | refine bN ?_ _ | refine bD ?_ | refine bA ?_ _)); exact BKgr.out : v24.heap[gr]? = some (.cells #[.string s2] 74 (0, 0))); replace BKgi := A0_.mk (by rw [hw]; (with_reducible repeat (first | refine bN ?_ _ | refine bD ?_ | refine bA ?_ _)); refine bP (cs := #[.int .i64 kd, .string (⟨#[]⟩ : ByteArray), .bool false, .string (⟨#[]⟩ : ByteArray), .int .i64 0, .slice none 0 0]) ?_ 4 _ rfl; (with_reducible repeat (first | refine bN ?_ _ | refine bD ?_ | refine bA ?_ _)); exact BKgi.out : v24.heap[gi]? = some (.cells #[.int .i64 kd, .string (⟨#[]⟩ : ByteArray), .bool false, .string (⟨#[]⟩ : ByteArray), .int .i64 (wrap64 (b * 256)), .slice none 0 0] 24 (0, 0))); replace HB := A0_.mk (by rw [hw]; repeat (first | (with_reducible first | exact HB.out | apply wA | apply pN | apply wD | refine wS ?_ GEgR.out | refine wS ?_ GEgr.out | refine wS ?_ GEgi.out) | exact HB.out) : Below w.heap.size w v24); clear hcz13 hfz13 hcz14 hfz14 hcz15 hfz15 hcz16 hfz16 hcz17 hfz17 hcz18 hfz18; clear hw; obtain ⟨hcz19, hcz20, hcz21, hcz22, hcz23, hcz24, hfz19, hfz20, hfz21, hfz22, hfz23, hfz24⟩ := SQ.cs6 BKgi.out)
   refine start_ (n := 7) (S := (fun w' => w'.cell? ⟨gi, 4, none⟩ = some (.int .i64 (wrap64 (b * 256))))) (ds := [6]) #[false, false, false, false, false, false, false] (by kernel_rfl) rfl rfl ((bC BKgi.out 4).trans rfl) (fun hHeld => ?_)
   refine pure_ (i := 0) (N := (some 36)) (v := ?_) (a' := ?_) #[true, false, false, false, false, false, false] rfl rfl (by kernel_rfl) (fun _ _ _ h => h) (Or.inl ⟨by rfl, ?_⟩) ?_ ?_
   rotate_left
   ·intro w'
    go_simp
    with_reducible rfl
   rotate_left
   ·simp only [Act.put, List.setIfInBounds_toArray, List.set_cons_zero, List.set_cons_succ]
    rfl
   refine take_ (i := 1) (N := (some 37)) (v := ?_) (a' := ?_) #[true, true, false, false, false, false, false] rfl rfl (by kernel_rfl) (fun _ _ _ h => h) (Or.inl ⟨by rfl, ?_⟩) hHeld ?_ ?_
   rotate_left
   ·intro w' hS_
    go_simp
    with_reducible rfl
   rotate_left
   ·simp only [Act.put, List.setIfInBounds_toArray, List.set_cons_zero, List.set_cons_succ]
    rfl
   refine pure_ (i := 2) (N := (some 38)) (v := ?_) (a' := ?_) #[true, true, true, false, false, false, false] rfl rfl (by kernel_rfl) (fun _ _ _ h => h) (Or.inl ⟨by rfl, ?_⟩) ?_ ?_
   rotate_left
   ·intro w'
    go_simp
    with_reducible rfl
   rotate_left
   ·simp only [Act.put, List.setIfInBounds_toArray, List.set_cons_zero, List.set_cons_succ]
    rfl
   refine one_ (i := 3) (N := some 39) #[true, true, true, true, false, false, false] rfl rfl (by kernel_rfl) (by decide) (fun K hK => ?_)
   refine goes_ Tryd.func39 (by kernel_rfl) rfl #[.pointer (some ⟨gr, 0, none⟩)] (by rfl) rfl rfl (by (try simp only [List.map_toArray, List.map_cons, List.map_nil]); first | done | rfl) ?_
   with_reducible refine (PNor.n9number.calls gr s2 c s3 w _ (is74 SQ.kw GEgr.out) SQ.bw H3.out).mono ?_
   rintro e v25 ⟨rfl, hi_, hb2_, hk_⟩
   replace BKgR := A0_.mk ((hk_.2 gR (bL (g := gR) SQ.kw) NBgR_gr.out (by simp)).trans SQ.kw)
   replace BKgr := A0_.mk hi_.1
   replace BKgi := A0_.mk ((hk_.2 gi (bL (g := gi) SQ.kw) NBgi_gr.out (by simp)).trans SQ.kw)
   replace HB := A0_.mk hb2_
   clear hcz19 hfz19 hcz20 hfz20 hcz21 hfz21 hcz22 hfz22 hcz23 hfz23 hcz24 hfz24
   clear hi_ hb2_ hk_
   obtain ⟨hcz25, hcz26, hcz27, hcz28, hcz29, hcz30, hfz25, hfz26, hfz27, hfz28, hfz29, hfz30⟩ := SQ.cs6 BKgi.out
   refine ⟨_, rfl, ?_⟩
   refine hK.out _ _ ((bC BKgi.out 4).trans rfl) (fun hHeld => ?_)
   clear hK K
   refine norm_ (a' := ?_) ?_ ?_
   rotate_left
   ·show Act.put _ (some 39) _ = _
    simp only [Act.put, List.setIfInBounds_toArray, List.set_cons_zero, List.set_cons_succ]
    rfl
   refine pure_ (i := 4) (N := (some 40)) (v := ?_) (a' := ?_) #[true, true, true, true, true, false, false] rfl rfl (by kernel_rfl) (fun _ _ _ h => h) (Or.inl ⟨by rfl, ?_⟩) ?_ ?_
   rotate_left
   ·intro w'
    go_simp
    with_reducible rfl
   rotate_left
   ·simp only [Act.put, List.setIfInBounds_toArray, List.set_cons_zero, List.set_cons_succ]
    rfl
   refine pure_ (i := 5) (N := (some 41)) (v := ?_) (a' := ?_) #[true, true, true, true, true, true, false] rfl rfl (by kernel_rfl) (fun _ _ _ h => h) (Or.inl ⟨by rfl, ?_⟩) ?_ ?_
   rotate_left
   ·intro w'
    go_simp
    with_reducible rfl
   rotate_left
   ·simp only [Act.put, List.setIfInBounds_toArray, List.set_cons_zero, List.set_cons_succ]
    rfl
   refine last_ (i := 6) (N := none) #[true, true, true, true, true, true, true] rfl rfl (by kernel_rfl) (by decide) (fun K hK => ?_)
   refine skip_ (w1 := ?_) (by rfl) rfl ?_ ?_
   rotate_left
   ·go_simp
    rfl
   refine hK.out _ _ ?_
   clear hK K
   refine done_ (by kernel_rfl) ?_
   obtain ⟨v26, hW_⟩ : ∃ W_, W_ = v25.setCell ⟨gi, 4, none⟩ (.int .i64 (Go.bits .or .i64 (wrap64 (b * 256)) c)) := ⟨_, rfl⟩
   have n0_ := A0_.mk (by rw [hW_]; exact bR BKgR.out NBgR_gi.out _ : v26.heap[gR]? = some (.cells #[.int .i64 0, .string (⟨#[]⟩ : ByteArray), .bool false, .string (⟨#[]⟩ : ByteArray), .int .i64 0, .slice none 0 0] 24 (0, 0)))
   have n1_ := A0_.mk (by rw [hW_]; exact bR BKgr.out NBgr_gi.out _ : v26.heap[gr]? = some (.cells #[.string s3] 74 (0, 0)))
   have n2_ := A0_.mk (by rw [hW_]; exact bP (cs := #[.int .i64 kd, .string (⟨#[]⟩ : ByteArray), .bool false, .string (⟨#[]⟩ : ByteArray), .int .i64 (wrap64 (b * 256)), .slice none 0 0]) BKgi.out 4 _ rfl : v26.heap[gi]? = some (.cells #[.int .i64 kd, .string (⟨#[]⟩ : ByteArray), .bool false, .string (⟨#[]⟩ : ByteArray), .int .i64 (Go.bits .or .i64 (wrap64 (b * 256)) c), .slice none 0 0] 24 (0, 0)))
   have n3_ := A0_.mk (by rw [hW_]; exact wS HB.out GEgi.out : Below w.heap.size w v26)
   rw [← hW_]
   clear hcz25 hfz25 hcz26 hfz26 hcz27 hfz27 hcz28 hfz28 hcz29 hfz29 hcz30 hfz30
   clear BKgR
   clear BKgr
   clear BKgi
   clear HB
   have BKgR := n0_; clear n0_
   have BKgr := n1_; clear n1_
   have BKgi := n2_; clear n2_
   have HB := n3_; clear n3_
   clear hW_
   obtain ⟨hcz31, hcz32, hcz33, hcz34, hcz35, hcz36, hfz31, hfz32, hfz33, hfz34, hfz35, hfz36⟩ := SQ.cs6 BKgi.out
   go_wp2_with fail
   with_reducible refine (PNor.n9number.calls gr s3 d s4 w _ (is74 SQ.kw GEgr.out) SQ.bw H4.out).mono ?_
   rintro e v27 ⟨rfl, hi_, hb2_, hk_⟩
   replace BKgR := A0_.mk ((hk_.2 gR (bL (g := gR) SQ.kw) NBgR_gr.out (by simp)).trans SQ.kw)
   replace BKgr := A0_.mk hi_.1
   replace BKgi := A0_.mk ((hk_.2 gi (bL (g := gi) SQ.kw) NBgi_gr.out (by simp)).trans SQ.kw)
   replace HB := A0_.mk hb2_
   clear hcz31 hfz31 hcz32 hfz32 hcz33 hfz33 hcz34 hfz34 hcz35 hfz35 hcz36 hfz36
   clear hi_ hb2_ hk_
   obtain ⟨hcz37, hcz38, hcz39, hcz40, hcz41, hcz42, hfz37, hfz38, hfz39, hfz40, hfz41, hfz42⟩ := SQ.cs6 BKgi.out
   go_wp2_with ((with_reducible refine gS (t := 4) (p := 45) rfl ?_); refine sE (t := 4) (p := 45) (v := ?vo_v28) (w1 := (v27.setCell ⟨gi, 2, none⟩ (.bool false))) ?hg ?ho ?hn ?hr ?_; (case ho => rfl); (case hg => rfl); (case hn => rfl); (case hr => first | (go_simp; done) | (go_simp; rfl)); intro v28 hw; replace BKgR := A0_.mk (by rw [hw]; (with_reducible repeat (first | refine bN ?_ _ | refine bD ?_ | refine bA ?_ _)); refine bR ?_ NBgR_gi.out _; (with_reducible repeat (first | refine bN ?_ _ | refine bD ?_ | refine bA ?_ _)); exact BKgR.out : v28.heap[gR]? = some (.cells #[.int .i64 0, .string (⟨#[]⟩ : ByteArray), .bool false, .string (⟨#[]⟩ : ByteArray), .int .i64 0, .slice none 0 0] 24 (0, 0))); replace BKgr := A0_.mk (by rw [hw]; (with_reducible repeat (first | refine bN ?_ _ | refine bD ?_ | refine bA ?_ _)); refine bR ?_ NBgr_gi.out _; (with_reducible repeat (first | refine bN ?_ _ | refine bD ?_ | refine bA ?_ _)); exact BKgr.out : v28.heap[gr]? = some (.cells #[.string s4] 74 (0, 0))); replace BKgi := A0_.mk (by rw [hw]; (with_reducible repeat (first | refine bN ?_ _ | refine bD ?_ | refine bA ?_ _)); refine bP (cs := #[.int .i64 kd, .string (⟨#[]⟩ : ByteArray), .bool false, .string (⟨#[]⟩ : ByteArray), .int .i64 (Go.bits .or .i64 (wrap64 (b * 256)) c), .slice none 0 0]) ?_ 2 _ rfl; (with_reducible repeat (first | refine bN ?_ _ | refine bD ?_ | refine bA ?_ _)); exact BKgi.out : v28.heap[gi]? = some (.cells #[.int .i64 kd, .string (⟨#[]⟩ : ByteArray), .bool false, .string (⟨#[]⟩ : ByteArray), .int .i64 (Go.bits .or .i64 (wrap64 (b * 256)) c), .slice none 0 0] 24 (0, 0))); replace HB := A0_.mk (by rw [hw]; repeat (first | (with_reducible first | exact HB.out | apply wA | apply pN | apply wD | refine wS ?_ GEgR.out | refine wS ?_ GEgr.out | refine wS ?_ GEgi.out) | exact HB.out) : Below w.heap.size w v28); clear hcz37 hfz37 hcz38 hfz38 hcz39 hfz39 hcz40 hfz40 hcz41 hfz41 hcz42 hfz42; clear hw; obtain ⟨hcz43, hcz44, hcz45, hcz46, hcz47, hcz48, hfz43, hfz44, hfz45, hfz46, hfz47, hfz48⟩ := SQ.cs6 BKgi.out)
   go_meet
   case rel => exact ⟨(⟨#[]⟩ : ByteArray), false, (⟨#[]⟩ : ByteArray), (Go.bits .or .i64 (wrap64 (b * 256)) c), s4, l, s9, ⟨H9.out⟩, ⟨HE.out⟩, ⟨BKgR.out⟩, ⟨BKgr.out⟩, ⟨BKgi.out⟩, ⟨HB.out⟩⟩
 case rest =>
  (try clear h)
  (try clear BKgR)
  (try clear BKgr)
  (try clear BKgi)
  (try clear HB)
  obtain ⟨xb, xh, xv, xm, xs, l, s9, H9, HE, BKgR, BKgr, BKgi, HB⟩ := hcut
  have h' := HE.out
  clear HE
  simp only [Option.some.injEq, Prod.mk.injEq] at h'
  obtain ⟨rfl, rfl, rfl, rfl, rfl, rfl⟩ := h'
  go_wp2_with fail
  have hlR_ := bL (g := gR) SQ.kw
  have hlI_ := bL (g := gi) SQ.kw
  have hls_ := wZ HB.out
  with_reducible refine (PNor.n9rest.calls k gr xs l s9 w _ (is74 SQ.kw GEgr.out) SQ.bw H9.out).mono ?_
  rintro e v29 ⟨v0_, rfl, hR0, hi_, hb2_, hk_⟩
  obtain ⟨A, cp, rfl⟩ := Kd.R_slice hR0
  replace BKgR := A0_.mk ((hk_.2 gR (bL (g := gR) SQ.kw) NBgR_gr.out (by simp)).trans SQ.kw)
  replace BKgr := A0_.mk hi_.1
  replace BKgi := A0_.mk ((hk_.2 gi (bL (g := gi) SQ.kw) NBgi_gr.out (by simp)).trans SQ.kw)
  replace HB := A0_.mk hb2_
  clear hi_ hb2_ hk_
  obtain ⟨hcz13, hcz14, hcz15, hcz16, hcz17, hcz18, hfz13, hfz14, hfz15, hfz16, hfz17, hfz18⟩ := SQ.cs6 BKgi.out
  go_wp2_with (first | ((with_reducible refine gS (t := 22) (p := 55) rfl ?_); refine sE (t := 22) (p := 55) (v := ?vo_v30) (w1 := (v29.setCell ⟨gi, 5, none⟩ (.slice A l.length cp))) ?hg ?ho ?hn ?hr ?_; (case ho => rfl); (case hg => rfl); (case hn => rfl); (case hr => first | (go_simp; done) | (go_simp; rfl)); intro v30 hw; replace BKgR := A0_.mk (by rw [hw]; (with_reducible repeat (first | refine bN ?_ _ | refine bD ?_ | refine bA ?_ _)); refine bR ?_ NBgR_gi.out _; (with_reducible repeat (first | refine bN ?_ _ | refine bD ?_ | refine bA ?_ _)); exact BKgR.out : v30.heap[gR]? = some (.cells #[.int .i64 0, .string (⟨#[]⟩ : ByteArray), .bool false, .string (⟨#[]⟩ : ByteArray), .int .i64 0, .slice none 0 0] 24 (0, 0))); replace BKgr := A0_.mk (by rw [hw]; (with_reducible repeat (first | refine bN ?_ _ | refine bD ?_ | refine bA ?_ _)); refine bR ?_ NBgr_gi.out _; (with_reducible repeat (first | refine bN ?_ _ | refine bD ?_ | refine bA ?_ _)); exact BKgr.out : v30.heap[gr]? = some (.cells #[.string s9] 74 (0, 0))); replace BKgi := A0_.mk (by rw [hw]; (with_reducible repeat (first | refine bN ?_ _ | refine bD ?_ | refine bA ?_ _)); refine bP (cs := #[.int .i64 kd, .string xb, .bool xh, .string xv, .int .i64 xm, .slice none 0 0]) ?_ 5 _ rfl; (with_reducible repeat (first | refine bN ?_ _ | refine bD ?_ | refine bA ?_ _)); exact BKgi.out : v30.heap[gi]? = some (.cells #[.int .i64 kd, .string xb, .bool xh, .string xv, .int .i64 xm, .slice A l.length cp] 24 (0, 0))); replace HB := A0_.mk (by rw [hw]; repeat (first | (with_reducible first | exact HB.out | apply wA | apply pN | apply wD | refine wS ?_ GEgR.out | refine wS ?_ GEgr.out | refine wS ?_ GEgi.out) | exact HB.out) : Below w.heap.size w v30); clear hcz13 hfz13 hcz14 hfz14 hcz15 hfz15 hcz16 hfz16 hcz17 hfz17 hcz18 hfz18; have hR1 : Kd.R Kd.string 9 v30 _ (fun _ => True) (.slice A l.length cp) l := (by rw [hw]; exact R_one hR0 hlI_ 5 _); clear hR0 hw; obtain ⟨hcz19, hcz20, hcz21, hcz22, hcz23, hcz24, hfz19, hfz20, hfz21, hfz22, hfz23, hfz24⟩ := SQ.cs6 BKgR.out; obtain ⟨hcz25, hcz26, hcz27, hcz28, hcz29, hcz30, hfz25, hfz26, hfz27, hfz28, hfz29, hfz30⟩ := SQ.cs6 BKgi.out) | ((with_reducible refine gS (t := 24) (p := 2) rfl ?_); refine sE (t := 24) (p := 2) (v := ?vo_v31) (w1 := ((((((v30.setCell ⟨gR, 0, none⟩ (.int .i64 kd)).setCell ⟨gR, 1, none⟩ (.string xb)).setCell ⟨gR, 2, none⟩ (.bool xh)).setCell ⟨gR, 3, none⟩ (.string xv)).setCell ⟨gR, 4, none⟩ (.int .i64 xm)).setCell ⟨gR, 5, none⟩ (.slice A l.length cp))) ?hg ?ho ?hn ?hr ?_; (case ho => rfl); (case hg => rfl); (case hn => rfl); (case hr => first | (go_simp; done) | (go_simp; rfl)); intro v31 hw; replace BKgR := A0_.mk (by rw [hw]; (with_reducible repeat (first | refine bN ?_ _ | refine bD ?_ | refine bA ?_ _)); refine bP (cs := #[.int .i64 kd, .string xb, .bool xh, .string xv, .int .i64 xm, .slice none 0 0]) ?_ 5 _ rfl; (with_reducible repeat (first | refine bN ?_ _ | refine bD ?_ | refine bA ?_ _)); refine bP (cs := #[.int .i64 kd, .string xb, .bool xh, .string xv, .int .i64 0, .slice none 0 0]) ?_ 4 _ rfl; (with_reducible repeat (first | refine bN ?_ _ | refine bD ?_ | refine bA ?_ _)); refine bP (cs := #[.int .i64 kd, .string xb, .bool xh, .string (⟨#[]⟩ : ByteArray), .int .i64 0, .slice none 0 0]) ?_ 3 _ rfl; (with_reducible repeat (first | refine bN ?_ _ | refine bD ?_ | refine bA ?_ _)); refine bP (cs := #[.int .i64 kd, .string xb, .bool false, .string (⟨#[]⟩ : ByteArray), .int .i64 0, .slice none 0 0]) ?_ 2 _ rfl; (with_reducible repeat (first | refine bN ?_ _ | refine bD ?_ | refine bA ?_ _)); refine bP (cs := #[.int .i64 kd, .string (⟨#[]⟩ : ByteArray), .bool false, .string (⟨#[]⟩ : ByteArray), .int .i64 0, .slice none 0 0]) ?_ 1 _ rfl; (with_reducible repeat (first | refine bN ?_ _ | refine bD ?_ | refine bA ?_ _)); refine bP (cs := #[.int .i64 0, .string (⟨#[]⟩ : ByteArray), .bool false, .string (⟨#[]⟩ : ByteArray), .int .i64 0, .slice none 0 0]) ?_ 0 _ rfl; (with_reducible repeat (first | refine bN ?_ _ | refine bD ?_ | refine bA ?_ _)); exact BKgR.out : v31.heap[gR]? = some (.cells #[.int .i64 kd, .string xb, .bool xh, .string xv, .int .i64 xm, .slice A l.length cp] 24 (0, 0))); replace BKgr := A0_.mk (by rw [hw]; (with_reducible repeat (first | refine bN ?_ _ | refine bD ?_ | refine bA ?_ _)); refine bR ?_ NBgr_gR.out _; (with_reducible repeat (first | refine bN ?_ _ | refine bD ?_ | refine bA ?_ _)); refine bR ?_ NBgr_gR.out _; (with_reducible repeat (first | refine bN ?_ _ | refine bD ?_ | refine bA ?_ _)); refine bR ?_ NBgr_gR.out _; (with_reducible repeat (first | refine bN ?_ _ | refine bD ?_ | refine bA ?_ _)); refine bR ?_ NBgr_gR.out _; (with_reducible repeat (first | refine bN ?_ _ | refine bD ?_ | refine bA ?_ _)); refine bR ?_ NBgr_gR.out _; (with_reducible repeat (first | refine bN ?_ _ | refine bD ?_ | refine bA ?_ _)); refine bR ?_ NBgr_gR.out _; (with_reducible repeat (first | refine bN ?_ _ | refine bD ?_ | refine bA ?_ _)); exact BKgr.out : v31.heap[gr]? = some (.cells #[.string s9] 74 (0, 0))); replace BKgi := A0_.mk (by rw [hw]; (with_reducible repeat (first | refine bN ?_ _ | refine bD ?_ | refine bA ?_ _)); refine bR ?_ NBgi_gR.out _; (with_reducible repeat (first | refine bN ?_ _ | refine bD ?_ | refine bA ?_ _)); refine bR ?_ NBgi_gR.out _; (with_reducible repeat (first | refine bN ?_ _ | refine bD ?_ | refine bA ?_ _)); refine bR ?_ NBgi_gR.out _; (with_reducible repeat (first | refine bN ?_ _ | refine bD ?_ | refine bA ?_ _)); refine bR ?_ NBgi_gR.out _; (with_reducible repeat (first | refine bN ?_ _ | refine bD ?_ | refine bA ?_ _)); refine bR ?_ NBgi_gR.out _; (with_reducible repeat (first | refine bN ?_ _ | refine bD ?_ | refine bA ?_ _)); refine bR ?_ NBgi_gR.out _; (with_reducible repeat (first | refine bN ?_ _ | refine bD ?_ | refine bA ?_ _)); exact BKgi.out : v31.heap[gi]? = some (.cells #[.int .i64 kd, .string xb, .bool xh, .string xv, .int .i64 xm, .slice A l.length cp] 24 (0, 0))); replace HB := A0_.mk (by rw [hw]; repeat (first | (with_reducible first | exact HB.out | apply wA | apply pN | apply wD | refine wS ?_ GEgR.out | refine wS ?_ GEgr.out | refine wS ?_ GEgi.out) | exact HB.out) : Below w.heap.size w v31); clear hcz19 hfz19 hcz20 hfz20 hcz21 hfz21 hcz22 hfz22 hcz23 hfz23 hcz24 hfz24 hcz25 hfz25 hcz26 hfz26 hcz27 hfz27 hcz28 hfz28 hcz29 hfz29 hcz30 hfz30; have hR2 : Kd.R Kd.string 9 v31 _ (fun _ => True) (.slice A l.length cp) l := (by rw [hw]; exact R_six hR1 hlR_ _ _ _ _ _ _); clear hR1 hw))
  refine bodyPost_ret (results_cell_row rfl _ _ gR 24 #[.int .i64 kd, .string xb, .bool xh, .string xv, .int .i64 xm, .slice A l.length cp] (0, 0) _ rfl SQ.kw Tryd.underlying24 rfl (by kernel_rfl)) rfl ?_
  exact ⟨_, rfl, Kd.R_lower hR2 hls_, SQ.bw⟩
end Go.Proofs.YtklakmooaffjpaaDoor.NodR
