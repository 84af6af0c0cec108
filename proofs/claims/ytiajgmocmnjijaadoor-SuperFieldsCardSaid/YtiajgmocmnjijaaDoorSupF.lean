/-
  SuperFields: plain facts, and the walk for every argument.
-/
import Derived.Test.YtiajgmocmnjijaaDoorSupW
import Derived.Test.YtiajgmocmnjijaaDoorSupQ
namespace Go.Proofs.YtiajgmocmnjijaaDoor.SupF
open Go.RowKit Go.Proofs.YtiajgmocmnjijaaDoor.PSup Go.Proofs.YtiajgmocmnjijaaDoorW.PrintWords Go.Proofs.YtiajgmocmnjijaaDoorW.PrintLast Go.Proofs.YtiajgmocmnjijaaDoorW.PrintMore Go.Proofs.YtiajgmocmnjijaaDoor.Str Go.Proofs.YtiajgmocmnjijaaDoor.SumH Go.Proofs.YtiajgmocmnjijaaDoor.SupP Go.Proofs.YtiajgmocmnjijaaDoor.SupC Go.Proofs.YtiajgmocmnjijaaDoor.SupW Go.Proofs.YtiajgmocmnjijaaDoor.SupR Go.Proofs.YtiajgmocmnjijaaDoor.SupQ Go.Proofs.YtiajgmocmnjijaaDoor.Dig
set_option linter.unusedVariables false
theorem enc_good (s : Sb) : (encR s).2 = decide (goodP s) := by
  by_cases h : goodP s
  · rw [encR, if_pos h, decide_eq_true h]
  · rw [encR, if_neg h, decide_eq_false h]
theorem encL_inj {s t : Sb} (hs : goodP s) (ht : goodP t) (h : (strOfNums (encL s)).extract 0 64 = (strOfNums (encL t)).extract 0 64) : s = t := by
  have h1 := enc_sup hs
  have h2 := enc_sup ht
  have h3 : isSup (strOfNums (encL s)) t := ⟨h1.1, ht, h.trans h2.2.2⟩
  exact (sup_read h1).symm.trans (sup_read h3)
theorem encL_tail (s : Sb) : (strOfNums (encL s)).extract 64 256 = F0.extract 64 256 := by
  apply bytes_inj
  rw [bytes_extract, bytes_extract, bytes_str _ (R_encL s), F0, bytes_str _ (R_zero 256), List.take_of_length_le (by rw [encL_len]; omega), List.take_of_length_le (by rw [List.length_replicate]; exact Nat.le_refl _), encL, ← sectL_len s, List.drop_left, List.drop_replicate, sectL_len]
def fld (s : Sb) (i : Nat) : Int := if i = 0 then s.q else if i = 1 then s.g else if i = 2 then s.l else if i = 3 then s.r else if i = 4 then s.t else s.c
def szs (i : Nat) : Nat := if i < 2 then 4 else if i < 5 then 2 else 1
def offs (i : Nat) : Nat := if i = 0 then 4 else if i = 1 then 8 else if i = 2 then 12 else if i = 3 then 14 else if i = 4 then 16 else if i = 5 then 18 else 19
theorem offs_next (i : Nat) (h : i < 6) : offs i + szs i = offs (i + 1) := by
  match i, h with
  | 0, _ => rfl
  | 1, _ => rfl
  | 2, _ => rfl
  | 3, _ => rfl
  | 4, _ => rfl
  | 5, _ => rfl
theorem offs_le (i : Nat) : 4 ≤ offs i ∧ offs i ≤ 19 := by unfold offs; repeat' split
                                                           all_goals omega
theorem szs_le (i : Nat) : 1 ≤ szs i ∧ szs i ≤ 4 := by unfold szs; repeat' split
                                                       all_goals omega
theorem fld_num {b : ByteArray} {s : Sb} (h : isSup b s) (i : Nat) (hi : i < 6) : numA b (offs i) (offs i + szs i) = fld s i := by
  have e := sup_read h
  match i, hi with
  | 0, _ => exact congrArg Sb.q e
  | 1, _ => exact congrArg Sb.g e
  | 2, _ => exact congrArg Sb.l e
  | 3, _ => exact congrArg Sb.r e
  | 4, _ => exact congrArg Sb.t e
  | 5, _ => exact congrArg Sb.c e
theorem num_zero (b : ByteArray) (i : Nat) : numA b i i = 0 := by
  unfold numA
  rw [show bytesOf (b.extract i i) = [] from List.eq_nil_of_length_eq_zero (by rw [len_bytesOf, ByteArray.size_extract]; omega)]; rfl
theorem num_step (b : ByteArray) (i j : Nat) (h : j < b.size) (hij : i ≤ j) (hk : j < i + 4) : Go.bits .or .i64 (wrap64 (numA b i j * 256)) (wrap64 (bt b (j : Int))) = numA b i (j + 1) := by
  have hl : j < (bytesOf b).length := by rw [len_bytesOf]; exact h
  have hb := bt_range b j
  obtain ⟨c, hc⟩ : ∃ c : Nat, bt b (j : Int) = (c : Int) := ⟨_, (Int.toNat_of_nonneg hb.1).symm⟩
  have hd := numA_range b i j 3 (by omega)
  have e : bytesOf (b.extract i (j + 1)) = bytesOf (b.extract i j) ++ [(c : Int)] := by
    rw [bytes_extract, bytes_extract, List.take_succ_eq_append_getElem hl, List.drop_append_of_le_length (by rw [List.length_take]; omega)]
    congr 2
    have := bt_rd b j
    rw [hc] at this
    rw [this, rd]
    rw [Int.toNat_natCast, List.getD_eq_getElem?_getD, List.getElem?_eq_getElem hl]; rfl
  unfold numA at hd ⊢
  rw [e, de_snoc, hc]
  rw [or_byte64 _ c (by omega) (by omega)]
  simp
theorem fld_at {w : World} {g : Nat} (s : Sb) {t : TypeId} (h : w.heap[g]? = some (.cells #[.int .i64 s.q, .int .i64 s.g, .int .i64 s.l, .int .i64 s.r, .int .i64 s.t, .int .i64 s.c] t (0, 0))) (i : Nat) (hi : i < 6) : w.cell? ⟨g, i, none⟩ = some (.int .i64 (fld s i)) := by
  rw [blk_cell h i]
  match i, hi with
  | 0, _ => rfl
  | 1, _ => rfl
  | 2, _ => rfl
  | 3, _ => rfl
  | 4, _ => rfl
  | 5, _ => rfl
theorem szs_at {w : World} {g : Nat} {t : TypeId} (h : w.heap[g]? = some (.cells #[.int .i64 4, .int .i64 4, .int .i64 2, .int .i64 2, .int .i64 2, .int .i64 1] t (0, 0))) (i : Nat) (hi : i < 6) : w.cell? ⟨g, i, none⟩ = some (.int .i64 (szs i : Nat)) := by
  rw [blk_cell h i]
  match i, hi with
  | 0, _ => rfl
  | 1, _ => rfl
  | 2, _ => rfl
  | 3, _ => rfl
  | 4, _ => rfl
  | 5, _ => rfl
theorem zero_at (s : Sb) (j : Nat) (h1 : 19 ≤ j) (h2 : j < 60) : bt (strOfNums (encL s)) (j : Int) = 0 := by
  rw [bt_str (R_encL s), rd, Int.toNat_natCast, List.getD_eq_getElem?_getD]
  have hl : (headS s).length = 19 := by simp [headS, b4, b2, b1]
  have hb := bodyS_len s
  rw [encL, sectL, List.append_assoc, List.getElem?_append_left (by omega), bodyS, List.getElem?_append_right (by omega), hl, List.getElem?_replicate, if_pos (by omega)]; rfl
theorem st_eq (s t : Sb) (e : Bool) (he : e = decide (s = t)) (w : World) : (if s.q = t.q then if s.g = t.g then if s.l = t.l then if s.r = t.r then if s.t = t.t then if s.c = t.c then Result.ok (Next.value (Value.bool true)) w else Result.ok (Next.value (Value.bool false)) w else Result.ok (Next.value (Value.bool false)) w else Result.ok (Next.value (Value.bool false)) w else Result.ok (Next.value (Value.bool false)) w else Result.ok (Next.value (Value.bool false)) w else Result.ok (Next.value (Value.bool false)) w) = Result.ok (Next.value (Value.bool e)) w := by
  have k : (s = t) ↔ (s.q = t.q ∧ s.g = t.g ∧ s.l = t.l ∧ s.r = t.r ∧ s.t = t.t ∧ s.c = t.c) := by
    constructor
    · rintro rfl; exact ⟨rfl, rfl, rfl, rfl, rfl, rfl⟩
    · obtain ⟨a1, a2, a3, a4, a5, a6⟩ := s
      obtain ⟨b1, b2, b3, b4, b5, b6⟩ := t
      rintro ⟨h1, h2, h3, h4, h5, h6⟩
      simp only at h1 h2 h3 h4 h5 h6
      subst h1 h2 h3 h4 h5 h6; rfl
  by_cases h : s = t
  · obtain ⟨h1, h2, h3, h4, h5, h6⟩ := k.1 h
    rw [if_pos h1, if_pos h2, if_pos h3, if_pos h4, if_pos h5, if_pos h6, he, decide_eq_true h]
  · rw [he, decide_eq_false h]
    have n : ∀ {p : Prop} [Decidable p] {x y : Result Next}, (p → x = y) → (if p then x else y) = y := fun {p} _ {x y} hx => by
      by_cases hp : p
      · rw [if_pos hp]; exact hx hp
      · rw [if_neg hp]
    exact n fun h1 => n fun h2 => n fun h3 => n fun h4 => n fun h5 => by rw [if_neg (fun h6 => h (k.2 ⟨h1, h2, h3, h4, h5, h6⟩))]
theorem w64 (k : Nat) (h : k < 1000) : wrap64 ((k : Int) + 1) = ((k + 1 : Nat) : Int) := by unfold wrap64; omega
theorem meas (n k : Nat) (h : k < n) : n - (intOf (.int .i64 ((k + 1 : Nat) : Int))).toNat < n - (intOf (.int .i64 (k : Int))).toNat := by simp only [intOf]; omega
theorem lt_four {k i : Nat} (h : k < szs i) : k < 4 := Nat.lt_of_lt_of_le h (szs_le i).2
set_option maxRecDepth 100000 in
set_option maxHeartbeats 16000000 in
theorem walk (s t : Sb) (w : World) (hG : Glob w) :
    Calls Tryd.prog 9 #[.agg #[.int .i64 s.q, .int .i64 s.g, .int .i64 s.l, .int .i64 s.r, .int .i64 s.t, .int .i64 s.c], .agg #[.int .i64 t.q, .int .i64 t.g, .int .i64 t.l, .int .i64 t.r, .int .i64 t.t, .int .i64 t.c]] w fun e w' => e = .returned (.bool true) ∧ Below w.heap.size w w' := by
  have HG := Aside0.mk hG
  clear hG
  have HB := Aside0.mk (Below.refl w.heap.size w)
  have hu43 := Tryd.underlying43
  have hu61 := Tryd.underlying61
  have CW := Lib.hid wakes_c
  have CF := Lib.hid fill_c
  have CS := Lib.hid fun W hG => enc_c s W hG
  have CT := Lib.hid fun W hG => enc_c t W hG
  have GS := Lib.hid fun W => good_c s W
  have GT := Lib.hid fun W => good_c t W
  rw [← enc_good t] at GT
  by_cases h1 : goodP s
  rotate_left
  · rw [encR, if_neg h1] at CS; dsimp only at CS
    rw [decide_eq_false h1] at GS; clear h1
    obtain ⟨⟨y1, y2⟩, hy⟩ : ∃ y, y = encR t := ⟨_, rfl⟩
    rw [← hy] at CT GT; dsimp only at CT GT; clear hy
    go_enter Tryd.func9, Tryd.ntmps9
    go_wp2_with (first | ((with_reducible refine gate_dst (N := 2) rfl ?_); (try (refine gate_guard (by rfl) ?_; dsimp only)); refine box_event ?hg (N := 2) ?hd (cs := #[.int .i64 s.q, .int .i64 s.g, .int .i64 s.l, .int .i64 s.r, .int .i64 s.t, .int .i64 s.c]) (t := 43) ?hr ?_; (case hd => rfl); (case hg => rfl); (case hr => first | (go_simp; done) | (go_simp; rfl)); intro gs hg v1 hbox hb; have n0_ := Aside0.mk (by rw [hg]; exact below_size (by repeat (first | (with_reducible first | exact HB.out | apply below_alloc | apply pw_below_drewN | apply below_drew1) | exact HB.out)) : w.heap.size ≤ gs); have n1_ := Aside0.mk (below_step (by repeat (first | (with_reducible first | exact HB.out | apply below_alloc | apply pw_below_drewN | apply below_drew1) | exact HB.out)) hb); have n2_ := Aside0.mk hbox; clear HB; have GEgs := n0_; clear n0_; have HB := n1_; clear n1_; have BKgs := n2_; clear n2_; clear hb hbox hg; have hcz1 : v1.cell? ⟨gs, 0, none⟩ = some (.int .i64 s.q) := (blk_cell BKgs.out 0).trans rfl; have hfz1 := blk_frozen BKgs.out 0; have hcz2 : v1.cell? ⟨gs, 1, none⟩ = some (.int .i64 s.g) := (blk_cell BKgs.out 1).trans rfl; have hfz2 := blk_frozen BKgs.out 1; have hcz3 : v1.cell? ⟨gs, 2, none⟩ = some (.int .i64 s.l) := (blk_cell BKgs.out 2).trans rfl; have hfz3 := blk_frozen BKgs.out 2; have hcz4 : v1.cell? ⟨gs, 3, none⟩ = some (.int .i64 s.r) := (blk_cell BKgs.out 3).trans rfl; have hfz4 := blk_frozen BKgs.out 3; have hcz5 : v1.cell? ⟨gs, 4, none⟩ = some (.int .i64 s.t) := (blk_cell BKgs.out 4).trans rfl; have hfz5 := blk_frozen BKgs.out 4; have hcz6 : v1.cell? ⟨gs, 5, none⟩ = some (.int .i64 s.c) := (blk_cell BKgs.out 5).trans rfl; have hfz6 := blk_frozen BKgs.out 5) | ((with_reducible refine gate_dst (N := 3) rfl ?_); (try (refine gate_guard (by rfl) ?_; dsimp only)); refine box_event ?hg (N := 3) ?hd (cs := #[.int .i64 t.q, .int .i64 t.g, .int .i64 t.l, .int .i64 t.r, .int .i64 t.t, .int .i64 t.c]) (t := 43) ?hr ?_; (case hd => rfl); (case hg => rfl); (case hr => first | (go_simp; done) | (go_simp; rfl)); intro gt hg v2 hbox hb; have n0_ := Aside0.mk (by rw [hg]; exact Nat.ne_of_lt (blk_lt (g := gs) (o := .cells #[.int .i64 s.q, .int .i64 s.g, .int .i64 s.l, .int .i64 s.r, .int .i64 s.t, .int .i64 s.c] 43 (0, 0)) (by (with_reducible repeat (first | refine blk_drewN ?_ _ | refine blk_drew ?_ | refine blk_alloc ?_ _)); exact BKgs.out)) : gs ≠ gt); have n1_ := Aside0.mk (by rw [hg]; exact Nat.ne_of_gt (blk_lt (g := gs) (o := .cells #[.int .i64 s.q, .int .i64 s.g, .int .i64 s.l, .int .i64 s.r, .int .i64 s.t, .int .i64 s.c] 43 (0, 0)) (by (with_reducible repeat (first | refine blk_drewN ?_ _ | refine blk_drew ?_ | refine blk_alloc ?_ _)); exact BKgs.out)) : gt ≠ gs); have n2_ := Aside0.mk (by rw [hg]; exact below_size (by repeat (first | (with_reducible first | exact HB.out | apply below_alloc | apply pw_below_drewN | apply below_drew1 | refine below_set ?_ GEgs.out) | exact HB.out)) : w.heap.size ≤ gt); have n3_ := Aside0.mk (blk_below (g := gs) (o := .cells #[.int .i64 s.q, .int .i64 s.g, .int .i64 s.l, .int .i64 s.r, .int .i64 s.t, .int .i64 s.c] 43 (0, 0)) (by (with_reducible repeat (first | refine blk_drewN ?_ _ | refine blk_drew ?_ | refine blk_alloc ?_ _)); exact BKgs.out) hb); have n4_ := Aside0.mk (below_step (by repeat (first | (with_reducible first | exact HB.out | apply below_alloc | apply pw_below_drewN | apply below_drew1 | refine below_set ?_ GEgs.out) | exact HB.out)) hb); have n5_ := Aside0.mk hbox; clear hcz1 hfz1 hcz2 hfz2 hcz3 hfz3 hcz4 hfz4 hcz5 hfz5 hcz6 hfz6; clear BKgs; clear HB; have NBgs_gt := n0_; clear n0_; have NBgt_gs := n1_; clear n1_; have GEgt := n2_; clear n2_; have BKgs := n3_; clear n3_; have HB := n4_; clear n4_; have BKgt := n5_; clear n5_; clear hb hbox hg; have hcz7 : v2.cell? ⟨gs, 0, none⟩ = some (.int .i64 s.q) := (blk_cell BKgs.out 0).trans rfl; have hfz7 := blk_frozen BKgs.out 0; have hcz8 : v2.cell? ⟨gs, 1, none⟩ = some (.int .i64 s.g) := (blk_cell BKgs.out 1).trans rfl; have hfz8 := blk_frozen BKgs.out 1; have hcz9 : v2.cell? ⟨gs, 2, none⟩ = some (.int .i64 s.l) := (blk_cell BKgs.out 2).trans rfl; have hfz9 := blk_frozen BKgs.out 2; have hcz10 : v2.cell? ⟨gs, 3, none⟩ = some (.int .i64 s.r) := (blk_cell BKgs.out 3).trans rfl; have hfz10 := blk_frozen BKgs.out 3; have hcz11 : v2.cell? ⟨gs, 4, none⟩ = some (.int .i64 s.t) := (blk_cell BKgs.out 4).trans rfl; have hfz11 := blk_frozen BKgs.out 4; have hcz12 : v2.cell? ⟨gs, 5, none⟩ = some (.int .i64 s.c) := (blk_cell BKgs.out 5).trans rfl; have hfz12 := blk_frozen BKgs.out 5))
    with_reducible refine (CS.out _ (Glob.below HG.out (by repeat (first | (with_reducible first | exact HB.out | apply below_alloc | apply pw_below_drewN | apply below_drew1 | refine below_set ?_ GEgs.out | refine below_set ?_ GEgt.out) | exact HB.out)))).mono ?_
    rintro e v3 ⟨rfl, hb⟩
    have n0_ := Aside0.mk (blk_below (g := gs) (o := .cells #[.int .i64 s.q, .int .i64 s.g, .int .i64 s.l, .int .i64 s.r, .int .i64 s.t, .int .i64 s.c] 43 (0, 0)) (by (with_reducible repeat (first | refine blk_drewN ?_ _ | refine blk_drew ?_ | refine blk_alloc ?_ _)); exact BKgs.out) hb)
    have n1_ := Aside0.mk (blk_below (g := gt) (o := .cells #[.int .i64 t.q, .int .i64 t.g, .int .i64 t.l, .int .i64 t.r, .int .i64 t.t, .int .i64 t.c] 43 (0, 0)) (by (with_reducible repeat (first | refine blk_drewN ?_ _ | refine blk_drew ?_ | refine blk_alloc ?_ _)); exact BKgt.out) hb)
    have n2_ := Aside0.mk (below_step (by repeat (first | (with_reducible first | exact HB.out | apply below_alloc | apply pw_below_drewN | apply below_drew1 | refine below_set ?_ GEgs.out | refine below_set ?_ GEgt.out) | exact HB.out)) hb)
    clear hcz7 hfz7 hcz8 hfz8 hcz9 hfz9 hcz10 hfz10 hcz11 hfz11 hcz12 hfz12
    clear BKgs
    clear BKgt
    clear HB
    have BKgs := n0_; clear n0_
    have BKgt := n1_; clear n1_
    have HB := n2_; clear n2_
    (try clear hb)
    have hcz13 : v3.cell? ⟨gt, 0, none⟩ = some (.int .i64 t.q) := (blk_cell BKgt.out 0).trans rfl
    have hfz13 := blk_frozen BKgt.out 0
    have hcz14 : v3.cell? ⟨gt, 1, none⟩ = some (.int .i64 t.g) := (blk_cell BKgt.out 1).trans rfl
    have hfz14 := blk_frozen BKgt.out 1
    have hcz15 : v3.cell? ⟨gt, 2, none⟩ = some (.int .i64 t.l) := (blk_cell BKgt.out 2).trans rfl
    have hfz15 := blk_frozen BKgt.out 2
    have hcz16 : v3.cell? ⟨gt, 3, none⟩ = some (.int .i64 t.r) := (blk_cell BKgt.out 3).trans rfl
    have hfz16 := blk_frozen BKgt.out 3
    have hcz17 : v3.cell? ⟨gt, 4, none⟩ = some (.int .i64 t.t) := (blk_cell BKgt.out 4).trans rfl
    have hfz17 := blk_frozen BKgt.out 4
    have hcz18 : v3.cell? ⟨gt, 5, none⟩ = some (.int .i64 t.c) := (blk_cell BKgt.out 5).trans rfl
    have hfz18 := blk_frozen BKgt.out 5
    go_wp2_with fail
    with_reducible refine (CT.out _ (Glob.below HG.out (by repeat (first | (with_reducible first | exact HB.out | apply below_alloc | apply pw_below_drewN | apply below_drew1 | refine below_set ?_ GEgs.out | refine below_set ?_ GEgt.out) | exact HB.out)))).mono ?_
    rintro e v4 ⟨rfl, hb⟩
    have n0_ := Aside0.mk (blk_below (g := gs) (o := .cells #[.int .i64 s.q, .int .i64 s.g, .int .i64 s.l, .int .i64 s.r, .int .i64 s.t, .int .i64 s.c] 43 (0, 0)) (by (with_reducible repeat (first | refine blk_drewN ?_ _ | refine blk_drew ?_ | refine blk_alloc ?_ _)); exact BKgs.out) hb)
    have n1_ := Aside0.mk (blk_below (g := gt) (o := .cells #[.int .i64 t.q, .int .i64 t.g, .int .i64 t.l, .int .i64 t.r, .int .i64 t.t, .int .i64 t.c] 43 (0, 0)) (by (with_reducible repeat (first | refine blk_drewN ?_ _ | refine blk_drew ?_ | refine blk_alloc ?_ _)); exact BKgt.out) hb)
    have n2_ := Aside0.mk (below_step (by repeat (first | (with_reducible first | exact HB.out | apply below_alloc | apply pw_below_drewN | apply below_drew1 | refine below_set ?_ GEgs.out | refine below_set ?_ GEgt.out) | exact HB.out)) hb)
    clear hcz13 hfz13 hcz14 hfz14 hcz15 hfz15 hcz16 hfz16 hcz17 hfz17 hcz18 hfz18
    clear BKgs
    clear BKgt
    clear HB
    have BKgs := n0_; clear n0_
    have BKgt := n1_; clear n1_
    have HB := n2_; clear n2_
    (try clear hb)
    have hcz19 : v4.cell? ⟨gs, 0, none⟩ = some (.int .i64 s.q) := (blk_cell BKgs.out 0).trans rfl
    have hfz19 := blk_frozen BKgs.out 0
    have hcz20 : v4.cell? ⟨gs, 1, none⟩ = some (.int .i64 s.g) := (blk_cell BKgs.out 1).trans rfl
    have hfz20 := blk_frozen BKgs.out 1
    have hcz21 : v4.cell? ⟨gs, 2, none⟩ = some (.int .i64 s.l) := (blk_cell BKgs.out 2).trans rfl
    have hfz21 := blk_frozen BKgs.out 2
    have hcz22 : v4.cell? ⟨gs, 3, none⟩ = some (.int .i64 s.r) := (blk_cell BKgs.out 3).trans rfl
    have hfz22 := blk_frozen BKgs.out 3
    have hcz23 : v4.cell? ⟨gs, 4, none⟩ = some (.int .i64 s.t) := (blk_cell BKgs.out 4).trans rfl
    have hfz23 := blk_frozen BKgs.out 4
    have hcz24 : v4.cell? ⟨gs, 5, none⟩ = some (.int .i64 s.c) := (blk_cell BKgs.out 5).trans rfl
    have hfz24 := blk_frozen BKgs.out 5
    have hcz25 : v4.cell? ⟨gt, 0, none⟩ = some (.int .i64 t.q) := (blk_cell BKgt.out 0).trans rfl
    have hfz25 := blk_frozen BKgt.out 0
    have hcz26 : v4.cell? ⟨gt, 1, none⟩ = some (.int .i64 t.g) := (blk_cell BKgt.out 1).trans rfl
    have hfz26 := blk_frozen BKgt.out 1
    have hcz27 : v4.cell? ⟨gt, 2, none⟩ = some (.int .i64 t.l) := (blk_cell BKgt.out 2).trans rfl
    have hfz27 := blk_frozen BKgt.out 2
    have hcz28 : v4.cell? ⟨gt, 3, none⟩ = some (.int .i64 t.r) := (blk_cell BKgt.out 3).trans rfl
    have hfz28 := blk_frozen BKgt.out 3
    have hcz29 : v4.cell? ⟨gt, 4, none⟩ = some (.int .i64 t.t) := (blk_cell BKgt.out 4).trans rfl
    have hfz29 := blk_frozen BKgt.out 4
    have hcz30 : v4.cell? ⟨gt, 5, none⟩ = some (.int .i64 t.c) := (blk_cell BKgt.out 5).trans rfl
    have hfz30 := blk_frozen BKgt.out 5
    go_wp2_with fail
    with_reducible refine (GS.out _).mono ?_
    rintro e v5 ⟨rfl, hb⟩
    have n0_ := Aside0.mk (blk_below (g := gs) (o := .cells #[.int .i64 s.q, .int .i64 s.g, .int .i64 s.l, .int .i64 s.r, .int .i64 s.t, .int .i64 s.c] 43 (0, 0)) (by (with_reducible repeat (first | refine blk_drewN ?_ _ | refine blk_drew ?_ | refine blk_alloc ?_ _)); exact BKgs.out) hb)
    have n1_ := Aside0.mk (blk_below (g := gt) (o := .cells #[.int .i64 t.q, .int .i64 t.g, .int .i64 t.l, .int .i64 t.r, .int .i64 t.t, .int .i64 t.c] 43 (0, 0)) (by (with_reducible repeat (first | refine blk_drewN ?_ _ | refine blk_drew ?_ | refine blk_alloc ?_ _)); exact BKgt.out) hb)
    have n2_ := Aside0.mk (below_step (by repeat (first | (with_reducible first | exact HB.out | apply below_alloc | apply pw_below_drewN | apply below_drew1 | refine below_set ?_ GEgs.out | refine below_set ?_ GEgt.out) | exact HB.out)) hb)
    clear hcz19 hfz19 hcz20 hfz20 hcz21 hfz21 hcz22 hfz22 hcz23 hfz23 hcz24 hfz24 hcz25 hfz25 hcz26 hfz26 hcz27 hfz27 hcz28 hfz28 hcz29 hfz29 hcz30 hfz30
    clear BKgs
    clear BKgt
    clear HB
    have BKgs := n0_; clear n0_
    have BKgt := n1_; clear n1_
    have HB := n2_; clear n2_
    (try clear hb)
    have hcz31 : v5.cell? ⟨gt, 0, none⟩ = some (.int .i64 t.q) := (blk_cell BKgt.out 0).trans rfl
    have hfz31 := blk_frozen BKgt.out 0
    have hcz32 : v5.cell? ⟨gt, 1, none⟩ = some (.int .i64 t.g) := (blk_cell BKgt.out 1).trans rfl
    have hfz32 := blk_frozen BKgt.out 1
    have hcz33 : v5.cell? ⟨gt, 2, none⟩ = some (.int .i64 t.l) := (blk_cell BKgt.out 2).trans rfl
    have hfz33 := blk_frozen BKgt.out 2
    have hcz34 : v5.cell? ⟨gt, 3, none⟩ = some (.int .i64 t.r) := (blk_cell BKgt.out 3).trans rfl
    have hfz34 := blk_frozen BKgt.out 3
    have hcz35 : v5.cell? ⟨gt, 4, none⟩ = some (.int .i64 t.t) := (blk_cell BKgt.out 4).trans rfl
    have hfz35 := blk_frozen BKgt.out 4
    have hcz36 : v5.cell? ⟨gt, 5, none⟩ = some (.int .i64 t.c) := (blk_cell BKgt.out 5).trans rfl
    have hfz36 := blk_frozen BKgt.out 5
    go_wp2_with fail
    with_reducible refine (GT.out _).mono ?_
    rintro e v6 ⟨rfl, hb⟩
    have n0_ := Aside0.mk (blk_below (g := gs) (o := .cells #[.int .i64 s.q, .int .i64 s.g, .int .i64 s.l, .int .i64 s.r, .int .i64 s.t, .int .i64 s.c] 43 (0, 0)) (by (with_reducible repeat (first | refine blk_drewN ?_ _ | refine blk_drew ?_ | refine blk_alloc ?_ _)); exact BKgs.out) hb)
    have n1_ := Aside0.mk (blk_below (g := gt) (o := .cells #[.int .i64 t.q, .int .i64 t.g, .int .i64 t.l, .int .i64 t.r, .int .i64 t.t, .int .i64 t.c] 43 (0, 0)) (by (with_reducible repeat (first | refine blk_drewN ?_ _ | refine blk_drew ?_ | refine blk_alloc ?_ _)); exact BKgt.out) hb)
    have n2_ := Aside0.mk (below_step (by repeat (first | (with_reducible first | exact HB.out | apply below_alloc | apply pw_below_drewN | apply below_drew1 | refine below_set ?_ GEgs.out | refine below_set ?_ GEgt.out) | exact HB.out)) hb)
    clear hcz31 hfz31 hcz32 hfz32 hcz33 hfz33 hcz34 hfz34 hcz35 hfz35 hcz36 hfz36
    clear BKgs
    clear BKgt
    clear HB
    have BKgs := n0_; clear n0_
    have BKgt := n1_; clear n1_
    have HB := n2_; clear n2_
    (try clear hb)
    go_wp2_with fail
    with_reducible refine (CW.out _ (Glob.below HG.out (by repeat (first | (with_reducible first | exact HB.out | apply below_alloc | apply pw_below_drewN | apply below_drew1 | refine below_set ?_ GEgs.out | refine below_set ?_ GEgt.out) | exact HB.out)))).mono ?_
    rintro e v7 ⟨rfl, hb⟩
    have n0_ := Aside0.mk (blk_below (g := gs) (o := .cells #[.int .i64 s.q, .int .i64 s.g, .int .i64 s.l, .int .i64 s.r, .int .i64 s.t, .int .i64 s.c] 43 (0, 0)) (by (with_reducible repeat (first | refine blk_drewN ?_ _ | refine blk_drew ?_ | refine blk_alloc ?_ _)); exact BKgs.out) hb)
    have n1_ := Aside0.mk (blk_below (g := gt) (o := .cells #[.int .i64 t.q, .int .i64 t.g, .int .i64 t.l, .int .i64 t.r, .int .i64 t.t, .int .i64 t.c] 43 (0, 0)) (by (with_reducible repeat (first | refine blk_drewN ?_ _ | refine blk_drew ?_ | refine blk_alloc ?_ _)); exact BKgt.out) hb)
    have n2_ := Aside0.mk (below_step (by repeat (first | (with_reducible first | exact HB.out | apply below_alloc | apply pw_below_drewN | apply below_drew1 | refine below_set ?_ GEgs.out | refine below_set ?_ GEgt.out) | exact HB.out)) hb)
    clear BKgs
    clear BKgt
    clear HB
    have BKgs := n0_; clear n0_
    have BKgt := n1_; clear n1_
    have HB := n2_; clear n2_
    (try clear hb)
    go_wp2_with fail
    go_ret
    exact ⟨rfl, by repeat (first | (with_reducible first | exact HB.out | apply below_alloc | apply pw_below_drewN | apply below_drew1 | refine below_set ?_ GEgs.out | refine below_set ?_ GEgt.out) | exact HB.out)⟩
  by_cases h2 : goodP t
  rotate_left
  · rw [encR, if_pos h1] at CS; dsimp only at CS
    rw [decide_eq_true h1] at GS; rw [encR, if_neg h2] at CT GT; dsimp only at CT GT; clear h1 h2
    go_enter Tryd.func9, Tryd.ntmps9
    go_wp2_with (first | ((with_reducible refine gate_dst (N := 2) rfl ?_); (try (refine gate_guard (by rfl) ?_; dsimp only)); refine box_event ?hg (N := 2) ?hd (cs := #[.int .i64 s.q, .int .i64 s.g, .int .i64 s.l, .int .i64 s.r, .int .i64 s.t, .int .i64 s.c]) (t := 43) ?hr ?_; (case hd => rfl); (case hg => rfl); (case hr => first | (go_simp; done) | (go_simp; rfl)); intro gs hg v1 hbox hb; have n0_ := Aside0.mk (by rw [hg]; exact below_size (by repeat (first | (with_reducible first | exact HB.out | apply below_alloc | apply pw_below_drewN | apply below_drew1) | exact HB.out)) : w.heap.size ≤ gs); have n1_ := Aside0.mk (below_step (by repeat (first | (with_reducible first | exact HB.out | apply below_alloc | apply pw_below_drewN | apply below_drew1) | exact HB.out)) hb); have n2_ := Aside0.mk hbox; clear HB; have GEgs := n0_; clear n0_; have HB := n1_; clear n1_; have BKgs := n2_; clear n2_; clear hb hbox hg; have hcz1 : v1.cell? ⟨gs, 0, none⟩ = some (.int .i64 s.q) := (blk_cell BKgs.out 0).trans rfl; have hfz1 := blk_frozen BKgs.out 0; have hcz2 : v1.cell? ⟨gs, 1, none⟩ = some (.int .i64 s.g) := (blk_cell BKgs.out 1).trans rfl; have hfz2 := blk_frozen BKgs.out 1; have hcz3 : v1.cell? ⟨gs, 2, none⟩ = some (.int .i64 s.l) := (blk_cell BKgs.out 2).trans rfl; have hfz3 := blk_frozen BKgs.out 2; have hcz4 : v1.cell? ⟨gs, 3, none⟩ = some (.int .i64 s.r) := (blk_cell BKgs.out 3).trans rfl; have hfz4 := blk_frozen BKgs.out 3; have hcz5 : v1.cell? ⟨gs, 4, none⟩ = some (.int .i64 s.t) := (blk_cell BKgs.out 4).trans rfl; have hfz5 := blk_frozen BKgs.out 4; have hcz6 : v1.cell? ⟨gs, 5, none⟩ = some (.int .i64 s.c) := (blk_cell BKgs.out 5).trans rfl; have hfz6 := blk_frozen BKgs.out 5) | ((with_reducible refine gate_dst (N := 3) rfl ?_); (try (refine gate_guard (by rfl) ?_; dsimp only)); refine box_event ?hg (N := 3) ?hd (cs := #[.int .i64 t.q, .int .i64 t.g, .int .i64 t.l, .int .i64 t.r, .int .i64 t.t, .int .i64 t.c]) (t := 43) ?hr ?_; (case hd => rfl); (case hg => rfl); (case hr => first | (go_simp; done) | (go_simp; rfl)); intro gt hg v2 hbox hb; have n0_ := Aside0.mk (by rw [hg]; exact Nat.ne_of_lt (blk_lt (g := gs) (o := .cells #[.int .i64 s.q, .int .i64 s.g, .int .i64 s.l, .int .i64 s.r, .int .i64 s.t, .int .i64 s.c] 43 (0, 0)) (by (with_reducible repeat (first | refine blk_drewN ?_ _ | refine blk_drew ?_ | refine blk_alloc ?_ _)); exact BKgs.out)) : gs ≠ gt); have n1_ := Aside0.mk (by rw [hg]; exact Nat.ne_of_gt (blk_lt (g := gs) (o := .cells #[.int .i64 s.q, .int .i64 s.g, .int .i64 s.l, .int .i64 s.r, .int .i64 s.t, .int .i64 s.c] 43 (0, 0)) (by (with_reducible repeat (first | refine blk_drewN ?_ _ | refine blk_drew ?_ | refine blk_alloc ?_ _)); exact BKgs.out)) : gt ≠ gs); have n2_ := Aside0.mk (by rw [hg]; exact below_size (by repeat (first | (with_reducible first | exact HB.out | apply below_alloc | apply pw_below_drewN | apply below_drew1 | refine below_set ?_ GEgs.out) | exact HB.out)) : w.heap.size ≤ gt); have n3_ := Aside0.mk (blk_below (g := gs) (o := .cells #[.int .i64 s.q, .int .i64 s.g, .int .i64 s.l, .int .i64 s.r, .int .i64 s.t, .int .i64 s.c] 43 (0, 0)) (by (with_reducible repeat (first | refine blk_drewN ?_ _ | refine blk_drew ?_ | refine blk_alloc ?_ _)); exact BKgs.out) hb); have n4_ := Aside0.mk (below_step (by repeat (first | (with_reducible first | exact HB.out | apply below_alloc | apply pw_below_drewN | apply below_drew1 | refine below_set ?_ GEgs.out) | exact HB.out)) hb); have n5_ := Aside0.mk hbox; clear hcz1 hfz1 hcz2 hfz2 hcz3 hfz3 hcz4 hfz4 hcz5 hfz5 hcz6 hfz6; clear BKgs; clear HB; have NBgs_gt := n0_; clear n0_; have NBgt_gs := n1_; clear n1_; have GEgt := n2_; clear n2_; have BKgs := n3_; clear n3_; have HB := n4_; clear n4_; have BKgt := n5_; clear n5_; clear hb hbox hg; have hcz7 : v2.cell? ⟨gs, 0, none⟩ = some (.int .i64 s.q) := (blk_cell BKgs.out 0).trans rfl; have hfz7 := blk_frozen BKgs.out 0; have hcz8 : v2.cell? ⟨gs, 1, none⟩ = some (.int .i64 s.g) := (blk_cell BKgs.out 1).trans rfl; have hfz8 := blk_frozen BKgs.out 1; have hcz9 : v2.cell? ⟨gs, 2, none⟩ = some (.int .i64 s.l) := (blk_cell BKgs.out 2).trans rfl; have hfz9 := blk_frozen BKgs.out 2; have hcz10 : v2.cell? ⟨gs, 3, none⟩ = some (.int .i64 s.r) := (blk_cell BKgs.out 3).trans rfl; have hfz10 := blk_frozen BKgs.out 3; have hcz11 : v2.cell? ⟨gs, 4, none⟩ = some (.int .i64 s.t) := (blk_cell BKgs.out 4).trans rfl; have hfz11 := blk_frozen BKgs.out 4; have hcz12 : v2.cell? ⟨gs, 5, none⟩ = some (.int .i64 s.c) := (blk_cell BKgs.out 5).trans rfl; have hfz12 := blk_frozen BKgs.out 5))
    with_reducible refine (CS.out _ (Glob.below HG.out (by repeat (first | (with_reducible first | exact HB.out | apply below_alloc | apply pw_below_drewN | apply below_drew1 | refine below_set ?_ GEgs.out | refine below_set ?_ GEgt.out) | exact HB.out)))).mono ?_
    rintro e v3 ⟨rfl, hb⟩
    have n0_ := Aside0.mk (blk_below (g := gs) (o := .cells #[.int .i64 s.q, .int .i64 s.g, .int .i64 s.l, .int .i64 s.r, .int .i64 s.t, .int .i64 s.c] 43 (0, 0)) (by (with_reducible repeat (first | refine blk_drewN ?_ _ | refine blk_drew ?_ | refine blk_alloc ?_ _)); exact BKgs.out) hb)
    have n1_ := Aside0.mk (blk_below (g := gt) (o := .cells #[.int .i64 t.q, .int .i64 t.g, .int .i64 t.l, .int .i64 t.r, .int .i64 t.t, .int .i64 t.c] 43 (0, 0)) (by (with_reducible repeat (first | refine blk_drewN ?_ _ | refine blk_drew ?_ | refine blk_alloc ?_ _)); exact BKgt.out) hb)
    have n2_ := Aside0.mk (below_step (by repeat (first | (with_reducible first | exact HB.out | apply below_alloc | apply pw_below_drewN | apply below_drew1 | refine below_set ?_ GEgs.out | refine below_set ?_ GEgt.out) | exact HB.out)) hb)
    clear hcz7 hfz7 hcz8 hfz8 hcz9 hfz9 hcz10 hfz10 hcz11 hfz11 hcz12 hfz12
    clear BKgs
    clear BKgt
    clear HB
    have BKgs := n0_; clear n0_
    have BKgt := n1_; clear n1_
    have HB := n2_; clear n2_
    (try clear hb)
    have hcz13 : v3.cell? ⟨gt, 0, none⟩ = some (.int .i64 t.q) := (blk_cell BKgt.out 0).trans rfl
    have hfz13 := blk_frozen BKgt.out 0
    have hcz14 : v3.cell? ⟨gt, 1, none⟩ = some (.int .i64 t.g) := (blk_cell BKgt.out 1).trans rfl
    have hfz14 := blk_frozen BKgt.out 1
    have hcz15 : v3.cell? ⟨gt, 2, none⟩ = some (.int .i64 t.l) := (blk_cell BKgt.out 2).trans rfl
    have hfz15 := blk_frozen BKgt.out 2
    have hcz16 : v3.cell? ⟨gt, 3, none⟩ = some (.int .i64 t.r) := (blk_cell BKgt.out 3).trans rfl
    have hfz16 := blk_frozen BKgt.out 3
    have hcz17 : v3.cell? ⟨gt, 4, none⟩ = some (.int .i64 t.t) := (blk_cell BKgt.out 4).trans rfl
    have hfz17 := blk_frozen BKgt.out 4
    have hcz18 : v3.cell? ⟨gt, 5, none⟩ = some (.int .i64 t.c) := (blk_cell BKgt.out 5).trans rfl
    have hfz18 := blk_frozen BKgt.out 5
    go_wp2_with fail
    with_reducible refine (CT.out _ (Glob.below HG.out (by repeat (first | (with_reducible first | exact HB.out | apply below_alloc | apply pw_below_drewN | apply below_drew1 | refine below_set ?_ GEgs.out | refine below_set ?_ GEgt.out) | exact HB.out)))).mono ?_
    rintro e v4 ⟨rfl, hb⟩
    have n0_ := Aside0.mk (blk_below (g := gs) (o := .cells #[.int .i64 s.q, .int .i64 s.g, .int .i64 s.l, .int .i64 s.r, .int .i64 s.t, .int .i64 s.c] 43 (0, 0)) (by (with_reducible repeat (first | refine blk_drewN ?_ _ | refine blk_drew ?_ | refine blk_alloc ?_ _)); exact BKgs.out) hb)
    have n1_ := Aside0.mk (blk_below (g := gt) (o := .cells #[.int .i64 t.q, .int .i64 t.g, .int .i64 t.l, .int .i64 t.r, .int .i64 t.t, .int .i64 t.c] 43 (0, 0)) (by (with_reducible repeat (first | refine blk_drewN ?_ _ | refine blk_drew ?_ | refine blk_alloc ?_ _)); exact BKgt.out) hb)
    have n2_ := Aside0.mk (below_step (by repeat (first | (with_reducible first | exact HB.out | apply below_alloc | apply pw_below_drewN | apply below_drew1 | refine below_set ?_ GEgs.out | refine below_set ?_ GEgt.out) | exact HB.out)) hb)
    clear hcz13 hfz13 hcz14 hfz14 hcz15 hfz15 hcz16 hfz16 hcz17 hfz17 hcz18 hfz18
    clear BKgs
    clear BKgt
    clear HB
    have BKgs := n0_; clear n0_
    have BKgt := n1_; clear n1_
    have HB := n2_; clear n2_
    (try clear hb)
    have hcz19 : v4.cell? ⟨gs, 0, none⟩ = some (.int .i64 s.q) := (blk_cell BKgs.out 0).trans rfl
    have hfz19 := blk_frozen BKgs.out 0
    have hcz20 : v4.cell? ⟨gs, 1, none⟩ = some (.int .i64 s.g) := (blk_cell BKgs.out 1).trans rfl
    have hfz20 := blk_frozen BKgs.out 1
    have hcz21 : v4.cell? ⟨gs, 2, none⟩ = some (.int .i64 s.l) := (blk_cell BKgs.out 2).trans rfl
    have hfz21 := blk_frozen BKgs.out 2
    have hcz22 : v4.cell? ⟨gs, 3, none⟩ = some (.int .i64 s.r) := (blk_cell BKgs.out 3).trans rfl
    have hfz22 := blk_frozen BKgs.out 3
    have hcz23 : v4.cell? ⟨gs, 4, none⟩ = some (.int .i64 s.t) := (blk_cell BKgs.out 4).trans rfl
    have hfz23 := blk_frozen BKgs.out 4
    have hcz24 : v4.cell? ⟨gs, 5, none⟩ = some (.int .i64 s.c) := (blk_cell BKgs.out 5).trans rfl
    have hfz24 := blk_frozen BKgs.out 5
    have hcz25 : v4.cell? ⟨gt, 0, none⟩ = some (.int .i64 t.q) := (blk_cell BKgt.out 0).trans rfl
    have hfz25 := blk_frozen BKgt.out 0
    have hcz26 : v4.cell? ⟨gt, 1, none⟩ = some (.int .i64 t.g) := (blk_cell BKgt.out 1).trans rfl
    have hfz26 := blk_frozen BKgt.out 1
    have hcz27 : v4.cell? ⟨gt, 2, none⟩ = some (.int .i64 t.l) := (blk_cell BKgt.out 2).trans rfl
    have hfz27 := blk_frozen BKgt.out 2
    have hcz28 : v4.cell? ⟨gt, 3, none⟩ = some (.int .i64 t.r) := (blk_cell BKgt.out 3).trans rfl
    have hfz28 := blk_frozen BKgt.out 3
    have hcz29 : v4.cell? ⟨gt, 4, none⟩ = some (.int .i64 t.t) := (blk_cell BKgt.out 4).trans rfl
    have hfz29 := blk_frozen BKgt.out 4
    have hcz30 : v4.cell? ⟨gt, 5, none⟩ = some (.int .i64 t.c) := (blk_cell BKgt.out 5).trans rfl
    have hfz30 := blk_frozen BKgt.out 5
    go_wp2_with fail
    with_reducible refine (GS.out _).mono ?_
    rintro e v5 ⟨rfl, hb⟩
    have n0_ := Aside0.mk (blk_below (g := gs) (o := .cells #[.int .i64 s.q, .int .i64 s.g, .int .i64 s.l, .int .i64 s.r, .int .i64 s.t, .int .i64 s.c] 43 (0, 0)) (by (with_reducible repeat (first | refine blk_drewN ?_ _ | refine blk_drew ?_ | refine blk_alloc ?_ _)); exact BKgs.out) hb)
    have n1_ := Aside0.mk (blk_below (g := gt) (o := .cells #[.int .i64 t.q, .int .i64 t.g, .int .i64 t.l, .int .i64 t.r, .int .i64 t.t, .int .i64 t.c] 43 (0, 0)) (by (with_reducible repeat (first | refine blk_drewN ?_ _ | refine blk_drew ?_ | refine blk_alloc ?_ _)); exact BKgt.out) hb)
    have n2_ := Aside0.mk (below_step (by repeat (first | (with_reducible first | exact HB.out | apply below_alloc | apply pw_below_drewN | apply below_drew1 | refine below_set ?_ GEgs.out | refine below_set ?_ GEgt.out) | exact HB.out)) hb)
    clear hcz19 hfz19 hcz20 hfz20 hcz21 hfz21 hcz22 hfz22 hcz23 hfz23 hcz24 hfz24 hcz25 hfz25 hcz26 hfz26 hcz27 hfz27 hcz28 hfz28 hcz29 hfz29 hcz30 hfz30
    clear BKgs
    clear BKgt
    clear HB
    have BKgs := n0_; clear n0_
    have BKgt := n1_; clear n1_
    have HB := n2_; clear n2_
    (try clear hb)
    have hcz31 : v5.cell? ⟨gt, 0, none⟩ = some (.int .i64 t.q) := (blk_cell BKgt.out 0).trans rfl
    have hfz31 := blk_frozen BKgt.out 0
    have hcz32 : v5.cell? ⟨gt, 1, none⟩ = some (.int .i64 t.g) := (blk_cell BKgt.out 1).trans rfl
    have hfz32 := blk_frozen BKgt.out 1
    have hcz33 : v5.cell? ⟨gt, 2, none⟩ = some (.int .i64 t.l) := (blk_cell BKgt.out 2).trans rfl
    have hfz33 := blk_frozen BKgt.out 2
    have hcz34 : v5.cell? ⟨gt, 3, none⟩ = some (.int .i64 t.r) := (blk_cell BKgt.out 3).trans rfl
    have hfz34 := blk_frozen BKgt.out 3
    have hcz35 : v5.cell? ⟨gt, 4, none⟩ = some (.int .i64 t.t) := (blk_cell BKgt.out 4).trans rfl
    have hfz35 := blk_frozen BKgt.out 4
    have hcz36 : v5.cell? ⟨gt, 5, none⟩ = some (.int .i64 t.c) := (blk_cell BKgt.out 5).trans rfl
    have hfz36 := blk_frozen BKgt.out 5
    go_wp2_with fail
    with_reducible refine (GT.out _).mono ?_
    rintro e v6 ⟨rfl, hb⟩
    have n0_ := Aside0.mk (blk_below (g := gs) (o := .cells #[.int .i64 s.q, .int .i64 s.g, .int .i64 s.l, .int .i64 s.r, .int .i64 s.t, .int .i64 s.c] 43 (0, 0)) (by (with_reducible repeat (first | refine blk_drewN ?_ _ | refine blk_drew ?_ | refine blk_alloc ?_ _)); exact BKgs.out) hb)
    have n1_ := Aside0.mk (blk_below (g := gt) (o := .cells #[.int .i64 t.q, .int .i64 t.g, .int .i64 t.l, .int .i64 t.r, .int .i64 t.t, .int .i64 t.c] 43 (0, 0)) (by (with_reducible repeat (first | refine blk_drewN ?_ _ | refine blk_drew ?_ | refine blk_alloc ?_ _)); exact BKgt.out) hb)
    have n2_ := Aside0.mk (below_step (by repeat (first | (with_reducible first | exact HB.out | apply below_alloc | apply pw_below_drewN | apply below_drew1 | refine below_set ?_ GEgs.out | refine below_set ?_ GEgt.out) | exact HB.out)) hb)
    clear hcz31 hfz31 hcz32 hfz32 hcz33 hfz33 hcz34 hfz34 hcz35 hfz35 hcz36 hfz36
    clear BKgs
    clear BKgt
    clear HB
    have BKgs := n0_; clear n0_
    have BKgt := n1_; clear n1_
    have HB := n2_; clear n2_
    (try clear hb)
    go_wp2_with fail
    with_reducible refine (CW.out _ (Glob.below HG.out (by repeat (first | (with_reducible first | exact HB.out | apply below_alloc | apply pw_below_drewN | apply below_drew1 | refine below_set ?_ GEgs.out | refine below_set ?_ GEgt.out) | exact HB.out)))).mono ?_
    rintro e v7 ⟨rfl, hb⟩
    have n0_ := Aside0.mk (blk_below (g := gs) (o := .cells #[.int .i64 s.q, .int .i64 s.g, .int .i64 s.l, .int .i64 s.r, .int .i64 s.t, .int .i64 s.c] 43 (0, 0)) (by (with_reducible repeat (first | refine blk_drewN ?_ _ | refine blk_drew ?_ | refine blk_alloc ?_ _)); exact BKgs.out) hb)
    have n1_ := Aside0.mk (blk_below (g := gt) (o := .cells #[.int .i64 t.q, .int .i64 t.g, .int .i64 t.l, .int .i64 t.r, .int .i64 t.t, .int .i64 t.c] 43 (0, 0)) (by (with_reducible repeat (first | refine blk_drewN ?_ _ | refine blk_drew ?_ | refine blk_alloc ?_ _)); exact BKgt.out) hb)
    have n2_ := Aside0.mk (below_step (by repeat (first | (with_reducible first | exact HB.out | apply below_alloc | apply pw_below_drewN | apply below_drew1 | refine below_set ?_ GEgs.out | refine below_set ?_ GEgt.out) | exact HB.out)) hb)
    clear BKgs
    clear BKgt
    clear HB
    have BKgs := n0_; clear n0_
    have BKgt := n1_; clear n1_
    have HB := n2_; clear n2_
    (try clear hb)
    go_wp2_with fail
    go_ret
    exact ⟨rfl, by repeat (first | (with_reducible first | exact HB.out | apply below_alloc | apply pw_below_drewN | apply below_drew1 | refine below_set ?_ GEgs.out | refine below_set ?_ GEgt.out) | exact HB.out)⟩
  rw [encR, if_pos h1] at CS; dsimp only at CS
  rw [encR, if_pos h2] at CT; dsimp only at CT
  clear GS GT
  have hI := enc_sup h1
  have hT := encL_tail s
  have hX := @encL_inj s t h1 h2
  have hZ := zero_at s
  have hS2 := (enc_sup h2).1
  have hST : s = t → strOfNums (encL s) = strOfNums (encL t) := fun h => by rw [h]
  obtain ⟨A, hA⟩ : ∃ A, A = strOfNums (encL s) := ⟨_, rfl⟩
  obtain ⟨B, hB⟩ : ∃ B, B = strOfNums (encL t) := ⟨_, rfl⟩
  obtain ⟨E, hE⟩ : ∃ E, E = F0 := ⟨_, rfl⟩
  have hE2 : E.size = 256 := by rw [hE, F0, str_size, List.length_replicate]
  rw [← hA] at hI hT hX hZ hST CS; rw [← hB] at hX hST hS2 CT; rw [← hE] at hT CF
  have hN := fld_num hI; have hS1 := hI.1
  clear hA hB hE hI h1 h2
  have n1 : ((A.size : Int) != 256) = false := by rw [hS1]; rfl
  have n2 : ((B.size : Int) != 256) = false := by rw [hS2]; rfl
  have z1 : 64 ≤ A.size := by rw [hS1]; decide
  have z2 : 64 ≤ B.size := by rw [hS2]; decide
  have z3 : 64 ≤ E.size := by rw [hE2]; decide
  have z1i : (64 : Int) ≤ (A.size : Int) := by omega
  have z1t := eq_true z1
  have z2i : (64 : Int) ≤ (B.size : Int) := by omega
  have z2t := eq_true z2
  have z3i : (64 : Int) ≤ (E.size : Int) := by omega
  have z3t := eq_true z3
  obtain ⟨e, he⟩ : ∃ e, e = decide (s = t) := ⟨_, rfl⟩
  have HE := Lib.hid (st_eq s t e he)
  have n3 : ((A.extract 0 64).toList == (B.extract 0 64).toList) = e := by
    rw [he, Bool.eq_iff_iff, beq_iff_eq, decide_eq_true_iff, toList_inj]
    exact ⟨hX, fun h => by rw [hST h]⟩
  have N3 := Lib.hid n3; clear n3 he
  have hT3 : A.extract 64 A.size = E.extract 64 E.size := by rw [hS1, hE2]; exact hT
  have hAs : ∀ j : Nat, j < 60 → j < A.size := fun j h => by rw [hS1]; omega
  have N4 := Lib.hid (show ((A.extract 64 A.size).toList == (E.extract 64 E.size).toList) = true by rw [hT3]; exact beq_self_eq_true _)
  have N1 := Lib.hid n1; have N2 := Lib.hid n2; have HT := Lib.hid hT3; have HX := Lib.hid hX; have HZ := Lib.hid hZ; have HN := Lib.hid hN; have HST := Lib.hid hST; have HAs := Lib.hid hAs; have HS1 := Lib.hid hS1
  clear n1 n2 hT hT3 hX hZ hN hST hAs hS1 hS2 hE2
  go_enter Tryd.func9, Tryd.ntmps9
  go_wp2_with (first | ((with_reducible refine gate_dst (N := 2) rfl ?_); (try (refine gate_guard (by rfl) ?_; dsimp only)); refine box_event ?hg (N := 2) ?hd (cs := #[.int .i64 s.q, .int .i64 s.g, .int .i64 s.l, .int .i64 s.r, .int .i64 s.t, .int .i64 s.c]) (t := 43) ?hr ?_; (case hd => rfl); (case hg => rfl); (case hr => first | (go_simp; done) | (go_simp; rfl)); intro gs hg v1 hbox hb; have n0_ := Aside0.mk (by rw [hg]; exact below_size (by repeat (first | (with_reducible first | exact HB.out | apply below_alloc | apply pw_below_drewN | apply below_drew1) | exact HB.out)) : w.heap.size ≤ gs); have n1_ := Aside0.mk (below_step (by repeat (first | (with_reducible first | exact HB.out | apply below_alloc | apply pw_below_drewN | apply below_drew1) | exact HB.out)) hb); have n2_ := Aside0.mk hbox; clear HB; have GEgs := n0_; clear n0_; have HB := n1_; clear n1_; have BKgs := n2_; clear n2_; clear hb hbox hg; have hcz1 : v1.cell? ⟨gs, 0, none⟩ = some (.int .i64 s.q) := (blk_cell BKgs.out 0).trans rfl; have hfz1 := blk_frozen BKgs.out 0; have hcz2 : v1.cell? ⟨gs, 1, none⟩ = some (.int .i64 s.g) := (blk_cell BKgs.out 1).trans rfl; have hfz2 := blk_frozen BKgs.out 1; have hcz3 : v1.cell? ⟨gs, 2, none⟩ = some (.int .i64 s.l) := (blk_cell BKgs.out 2).trans rfl; have hfz3 := blk_frozen BKgs.out 2; have hcz4 : v1.cell? ⟨gs, 3, none⟩ = some (.int .i64 s.r) := (blk_cell BKgs.out 3).trans rfl; have hfz4 := blk_frozen BKgs.out 3; have hcz5 : v1.cell? ⟨gs, 4, none⟩ = some (.int .i64 s.t) := (blk_cell BKgs.out 4).trans rfl; have hfz5 := blk_frozen BKgs.out 4; have hcz6 : v1.cell? ⟨gs, 5, none⟩ = some (.int .i64 s.c) := (blk_cell BKgs.out 5).trans rfl; have hfz6 := blk_frozen BKgs.out 5) | ((with_reducible refine gate_dst (N := 3) rfl ?_); (try (refine gate_guard (by rfl) ?_; dsimp only)); refine box_event ?hg (N := 3) ?hd (cs := #[.int .i64 t.q, .int .i64 t.g, .int .i64 t.l, .int .i64 t.r, .int .i64 t.t, .int .i64 t.c]) (t := 43) ?hr ?_; (case hd => rfl); (case hg => rfl); (case hr => first | (go_simp; done) | (go_simp; rfl)); intro gt hg v2 hbox hb; have n0_ := Aside0.mk (by rw [hg]; exact Nat.ne_of_lt (blk_lt (g := gs) (o := .cells #[.int .i64 s.q, .int .i64 s.g, .int .i64 s.l, .int .i64 s.r, .int .i64 s.t, .int .i64 s.c] 43 (0, 0)) (by (with_reducible repeat (first | refine blk_drewN ?_ _ | refine blk_drew ?_ | refine blk_alloc ?_ _)); exact BKgs.out)) : gs ≠ gt); have n1_ := Aside0.mk (by rw [hg]; exact Nat.ne_of_gt (blk_lt (g := gs) (o := .cells #[.int .i64 s.q, .int .i64 s.g, .int .i64 s.l, .int .i64 s.r, .int .i64 s.t, .int .i64 s.c] 43 (0, 0)) (by (with_reducible repeat (first | refine blk_drewN ?_ _ | refine blk_drew ?_ | refine blk_alloc ?_ _)); exact BKgs.out)) : gt ≠ gs); have n2_ := Aside0.mk (by rw [hg]; exact below_size (by repeat (first | (with_reducible first | exact HB.out | apply below_alloc | apply pw_below_drewN | apply below_drew1 | refine below_set ?_ GEgs.out) | exact HB.out)) : w.heap.size ≤ gt); have n3_ := Aside0.mk (blk_below (g := gs) (o := .cells #[.int .i64 s.q, .int .i64 s.g, .int .i64 s.l, .int .i64 s.r, .int .i64 s.t, .int .i64 s.c] 43 (0, 0)) (by (with_reducible repeat (first | refine blk_drewN ?_ _ | refine blk_drew ?_ | refine blk_alloc ?_ _)); exact BKgs.out) hb); have n4_ := Aside0.mk (below_step (by repeat (first | (with_reducible first | exact HB.out | apply below_alloc | apply pw_below_drewN | apply below_drew1 | refine below_set ?_ GEgs.out) | exact HB.out)) hb); have n5_ := Aside0.mk hbox; clear hcz1 hfz1 hcz2 hfz2 hcz3 hfz3 hcz4 hfz4 hcz5 hfz5 hcz6 hfz6; clear BKgs; clear HB; have NBgs_gt := n0_; clear n0_; have NBgt_gs := n1_; clear n1_; have GEgt := n2_; clear n2_; have BKgs := n3_; clear n3_; have HB := n4_; clear n4_; have BKgt := n5_; clear n5_; clear hb hbox hg; have hcz7 : v2.cell? ⟨gs, 0, none⟩ = some (.int .i64 s.q) := (blk_cell BKgs.out 0).trans rfl; have hfz7 := blk_frozen BKgs.out 0; have hcz8 : v2.cell? ⟨gs, 1, none⟩ = some (.int .i64 s.g) := (blk_cell BKgs.out 1).trans rfl; have hfz8 := blk_frozen BKgs.out 1; have hcz9 : v2.cell? ⟨gs, 2, none⟩ = some (.int .i64 s.l) := (blk_cell BKgs.out 2).trans rfl; have hfz9 := blk_frozen BKgs.out 2; have hcz10 : v2.cell? ⟨gs, 3, none⟩ = some (.int .i64 s.r) := (blk_cell BKgs.out 3).trans rfl; have hfz10 := blk_frozen BKgs.out 3; have hcz11 : v2.cell? ⟨gs, 4, none⟩ = some (.int .i64 s.t) := (blk_cell BKgs.out 4).trans rfl; have hfz11 := blk_frozen BKgs.out 4; have hcz12 : v2.cell? ⟨gs, 5, none⟩ = some (.int .i64 s.c) := (blk_cell BKgs.out 5).trans rfl; have hfz12 := blk_frozen BKgs.out 5))
  with_reducible refine (CS.out _ (Glob.below HG.out (by repeat (first | (with_reducible first | exact HB.out | apply below_alloc | apply pw_below_drewN | apply below_drew1 | refine below_set ?_ GEgs.out | refine below_set ?_ GEgt.out) | exact HB.out)))).mono ?_
  rintro e v3 ⟨rfl, hb⟩
  have n0_ := Aside0.mk (blk_below (g := gs) (o := .cells #[.int .i64 s.q, .int .i64 s.g, .int .i64 s.l, .int .i64 s.r, .int .i64 s.t, .int .i64 s.c] 43 (0, 0)) (by (with_reducible repeat (first | refine blk_drewN ?_ _ | refine blk_drew ?_ | refine blk_alloc ?_ _)); exact BKgs.out) hb)
  have n1_ := Aside0.mk (blk_below (g := gt) (o := .cells #[.int .i64 t.q, .int .i64 t.g, .int .i64 t.l, .int .i64 t.r, .int .i64 t.t, .int .i64 t.c] 43 (0, 0)) (by (with_reducible repeat (first | refine blk_drewN ?_ _ | refine blk_drew ?_ | refine blk_alloc ?_ _)); exact BKgt.out) hb)
  have n2_ := Aside0.mk (below_step (by repeat (first | (with_reducible first | exact HB.out | apply below_alloc | apply pw_below_drewN | apply below_drew1 | refine below_set ?_ GEgs.out | refine below_set ?_ GEgt.out) | exact HB.out)) hb)
  clear hcz7 hfz7 hcz8 hfz8 hcz9 hfz9 hcz10 hfz10 hcz11 hfz11 hcz12 hfz12
  clear BKgs
  clear BKgt
  clear HB
  have BKgs := n0_; clear n0_
  have BKgt := n1_; clear n1_
  have HB := n2_; clear n2_
  (try clear hb)
  have hcz13 : v3.cell? ⟨gt, 0, none⟩ = some (.int .i64 t.q) := (blk_cell BKgt.out 0).trans rfl
  have hfz13 := blk_frozen BKgt.out 0
  have hcz14 : v3.cell? ⟨gt, 1, none⟩ = some (.int .i64 t.g) := (blk_cell BKgt.out 1).trans rfl
  have hfz14 := blk_frozen BKgt.out 1
  have hcz15 : v3.cell? ⟨gt, 2, none⟩ = some (.int .i64 t.l) := (blk_cell BKgt.out 2).trans rfl
  have hfz15 := blk_frozen BKgt.out 2
  have hcz16 : v3.cell? ⟨gt, 3, none⟩ = some (.int .i64 t.r) := (blk_cell BKgt.out 3).trans rfl
  have hfz16 := blk_frozen BKgt.out 3
  have hcz17 : v3.cell? ⟨gt, 4, none⟩ = some (.int .i64 t.t) := (blk_cell BKgt.out 4).trans rfl
  have hfz17 := blk_frozen BKgt.out 4
  have hcz18 : v3.cell? ⟨gt, 5, none⟩ = some (.int .i64 t.c) := (blk_cell BKgt.out 5).trans rfl
  have hfz18 := blk_frozen BKgt.out 5
  go_wp2_with fail
  with_reducible refine (CT.out _ (Glob.below HG.out (by repeat (first | (with_reducible first | exact HB.out | apply below_alloc | apply pw_below_drewN | apply below_drew1 | refine below_set ?_ GEgs.out | refine below_set ?_ GEgt.out) | exact HB.out)))).mono ?_
  rintro e v4 ⟨rfl, hb⟩
  have n0_ := Aside0.mk (blk_below (g := gs) (o := .cells #[.int .i64 s.q, .int .i64 s.g, .int .i64 s.l, .int .i64 s.r, .int .i64 s.t, .int .i64 s.c] 43 (0, 0)) (by (with_reducible repeat (first | refine blk_drewN ?_ _ | refine blk_drew ?_ | refine blk_alloc ?_ _)); exact BKgs.out) hb)
  have n1_ := Aside0.mk (blk_below (g := gt) (o := .cells #[.int .i64 t.q, .int .i64 t.g, .int .i64 t.l, .int .i64 t.r, .int .i64 t.t, .int .i64 t.c] 43 (0, 0)) (by (with_reducible repeat (first | refine blk_drewN ?_ _ | refine blk_drew ?_ | refine blk_alloc ?_ _)); exact BKgt.out) hb)
  have n2_ := Aside0.mk (below_step (by repeat (first | (with_reducible first | exact HB.out | apply below_alloc | apply pw_below_drewN | apply below_drew1 | refine below_set ?_ GEgs.out | refine below_set ?_ GEgt.out) | exact HB.out)) hb)
  clear hcz13 hfz13 hcz14 hfz14 hcz15 hfz15 hcz16 hfz16 hcz17 hfz17 hcz18 hfz18
  clear BKgs
  clear BKgt
  clear HB
  have BKgs := n0_; clear n0_
  have BKgt := n1_; clear n1_
  have HB := n2_; clear n2_
  (try clear hb)
  go_wp2_with fail
  have HRs := Lib.hid (show ∀ w', Cm.Calm v4 w' → w'.rangeAt gs 0 [.int .i64 s.q, .int .i64 s.g, .int .i64 s.l, .int .i64 s.r, .int .i64 s.t, .int .i64 s.c] from fun w' hc => blk_range (calm_blk BKgs.out hc) 0 _ [] rfl)
  have HRt := Lib.hid (show ∀ w', Cm.Calm v4 w' → w'.rangeAt gt 0 [.int .i64 t.q, .int .i64 t.g, .int .i64 t.l, .int .i64 t.r, .int .i64 t.t, .int .i64 t.c] from fun w' hc => blk_range (calm_blk BKgt.out hc) 0 _ [] rfl)
  refine Cm.wp_region_calm_lit v4 (by kernel_rfl) (by kernel_rfl) (Cm.Calm.refl _) ?_
  repeat (first | rw [N1.out] | rw [N2.out] | rw [N3.out] | rw [N4.out, Bool.not_true] | (refine wpQuiet_step (fun K hK => ?_); refine qstep (N := some 58) (by rfl) rfl (.agg #[.int .i64 s.q, .int .i64 s.g, .int .i64 s.l, .int .i64 s.r, .int .i64 s.t, .int .i64 s.c]) (quiet_load_mid 43 (.tmp 2) rfl gs 0 [.int .i64 s.q, .int .i64 s.g, .int .i64 s.l, .int .i64 s.r, .int .i64 s.t, .int .i64 s.c] _ rfl (fun w' hw => HRs.out w' hw) Tryd.underlying43 rfl rfl) (hK _ ?_); clear hK K) | (refine wpQuiet_step (fun K hK => ?_); refine qstep (N := some 59) (by rfl) rfl (.agg #[.int .i64 t.q, .int .i64 t.g, .int .i64 t.l, .int .i64 t.r, .int .i64 t.t, .int .i64 t.c]) (quiet_load_mid 43 (.tmp 3) rfl gt 0 [.int .i64 t.q, .int .i64 t.g, .int .i64 t.l, .int .i64 t.r, .int .i64 t.t, .int .i64 t.c] _ rfl (fun w' hw => HRt.out w' hw) Tryd.underlying43 rfl rfl) (hK _ ?_); clear hK K) | go_big_quiet_step (fail) | (refine wpQuiet_step (fun K hK => ?_); go_simp; first | (refine hK _ ?_; clear hK K) | (refine ⟨_, fun _ _ => rfl, hK _ ?_⟩; clear hK K) | (refine ⟨.bool e, fun w' hw => by rw [HE.out w']; exact ⟨rfl, rfl⟩, hK _ ?_⟩; clear hK K) | (apply Exists.intro; refine ⟨fun _ hc_ => ?_, hK _ ?_⟩; (first | exact Cm.Calm.call hc_ (CF.out _)); clear hK K)))
  refine wpQuiet_nil ?_
  intro v5 hcw
  have hb := hcw.below
  clear hcw HRs HRt HE N1 N2 N3 N4 HT HST HX CS CT CF
  have n0_ := Aside0.mk (blk_below (g := gs) (o := .cells #[.int .i64 s.q, .int .i64 s.g, .int .i64 s.l, .int .i64 s.r, .int .i64 s.t, .int .i64 s.c] 43 (0, 0)) (by (with_reducible repeat (first | refine blk_drewN ?_ _ | refine blk_drew ?_ | refine blk_alloc ?_ _)); exact BKgs.out) hb)
  have n1_ := Aside0.mk (blk_below (g := gt) (o := .cells #[.int .i64 t.q, .int .i64 t.g, .int .i64 t.l, .int .i64 t.r, .int .i64 t.t, .int .i64 t.c] 43 (0, 0)) (by (with_reducible repeat (first | refine blk_drewN ?_ _ | refine blk_drew ?_ | refine blk_alloc ?_ _)); exact BKgt.out) hb)
  have n2_ := Aside0.mk (below_step (by repeat (first | (with_reducible first | exact HB.out | apply below_alloc | apply pw_below_drewN | apply below_drew1 | refine below_set ?_ GEgs.out | refine below_set ?_ GEgt.out) | exact HB.out)) hb)
  clear BKgs
  clear BKgt
  clear HB
  have BKgs := n0_; clear n0_
  have BKgt := n1_; clear n1_
  have HB := n2_; clear n2_
  (try clear hb)
  have hcz19 : v5.cell? ⟨gs, 0, none⟩ = some (.int .i64 s.q) := (blk_cell BKgs.out 0).trans rfl
  have hfz19 := blk_frozen BKgs.out 0
  have hcz20 : v5.cell? ⟨gs, 1, none⟩ = some (.int .i64 s.g) := (blk_cell BKgs.out 1).trans rfl
  have hfz20 := blk_frozen BKgs.out 1
  have hcz21 : v5.cell? ⟨gs, 2, none⟩ = some (.int .i64 s.l) := (blk_cell BKgs.out 2).trans rfl
  have hfz21 := blk_frozen BKgs.out 2
  have hcz22 : v5.cell? ⟨gs, 3, none⟩ = some (.int .i64 s.r) := (blk_cell BKgs.out 3).trans rfl
  have hfz22 := blk_frozen BKgs.out 3
  have hcz23 : v5.cell? ⟨gs, 4, none⟩ = some (.int .i64 s.t) := (blk_cell BKgs.out 4).trans rfl
  have hfz23 := blk_frozen BKgs.out 4
  have hcz24 : v5.cell? ⟨gs, 5, none⟩ = some (.int .i64 s.c) := (blk_cell BKgs.out 5).trans rfl
  have hfz24 := blk_frozen BKgs.out 5
  go_wp2_with (first | ((with_reducible refine gate_dst (N := 9) rfl ?_); (try (refine gate_guard (by rfl) ?_; dsimp only)); refine box_event ?hg (N := 9) ?hd (cs := #[.int .i64 0, .int .i64 0, .int .i64 0, .int .i64 0, .int .i64 0, .int .i64 0]) (t := 61) ?hr ?_; (case hd => rfl); (case hg => rfl); (case hr => first | (go_simp; done) | (go_simp; rfl)); intro gn hg v6 hbox hb; have n0_ := Aside0.mk (by rw [hg]; exact Nat.ne_of_lt (blk_lt (g := gs) (o := .cells #[.int .i64 s.q, .int .i64 s.g, .int .i64 s.l, .int .i64 s.r, .int .i64 s.t, .int .i64 s.c] 43 (0, 0)) (by (with_reducible repeat (first | refine blk_drewN ?_ _ | refine blk_drew ?_ | refine blk_alloc ?_ _)); exact BKgs.out)) : gs ≠ gn); have n1_ := Aside0.mk (by rw [hg]; exact Nat.ne_of_gt (blk_lt (g := gs) (o := .cells #[.int .i64 s.q, .int .i64 s.g, .int .i64 s.l, .int .i64 s.r, .int .i64 s.t, .int .i64 s.c] 43 (0, 0)) (by (with_reducible repeat (first | refine blk_drewN ?_ _ | refine blk_drew ?_ | refine blk_alloc ?_ _)); exact BKgs.out)) : gn ≠ gs); have n2_ := Aside0.mk (by rw [hg]; exact Nat.ne_of_lt (blk_lt (g := gt) (o := .cells #[.int .i64 t.q, .int .i64 t.g, .int .i64 t.l, .int .i64 t.r, .int .i64 t.t, .int .i64 t.c] 43 (0, 0)) (by (with_reducible repeat (first | refine blk_drewN ?_ _ | refine blk_drew ?_ | refine blk_alloc ?_ _)); exact BKgt.out)) : gt ≠ gn); have n3_ := Aside0.mk (by rw [hg]; exact Nat.ne_of_gt (blk_lt (g := gt) (o := .cells #[.int .i64 t.q, .int .i64 t.g, .int .i64 t.l, .int .i64 t.r, .int .i64 t.t, .int .i64 t.c] 43 (0, 0)) (by (with_reducible repeat (first | refine blk_drewN ?_ _ | refine blk_drew ?_ | refine blk_alloc ?_ _)); exact BKgt.out)) : gn ≠ gt); have n4_ := Aside0.mk (by rw [hg]; exact below_size (by repeat (first | (with_reducible first | exact HB.out | apply below_alloc | apply pw_below_drewN | apply below_drew1 | refine below_set ?_ GEgs.out | refine below_set ?_ GEgt.out) | exact HB.out)) : w.heap.size ≤ gn); have n5_ := Aside0.mk (blk_below (g := gs) (o := .cells #[.int .i64 s.q, .int .i64 s.g, .int .i64 s.l, .int .i64 s.r, .int .i64 s.t, .int .i64 s.c] 43 (0, 0)) (by (with_reducible repeat (first | refine blk_drewN ?_ _ | refine blk_drew ?_ | refine blk_alloc ?_ _)); exact BKgs.out) hb); have n6_ := Aside0.mk (blk_below (g := gt) (o := .cells #[.int .i64 t.q, .int .i64 t.g, .int .i64 t.l, .int .i64 t.r, .int .i64 t.t, .int .i64 t.c] 43 (0, 0)) (by (with_reducible repeat (first | refine blk_drewN ?_ _ | refine blk_drew ?_ | refine blk_alloc ?_ _)); exact BKgt.out) hb); have n7_ := Aside0.mk (below_step (by repeat (first | (with_reducible first | exact HB.out | apply below_alloc | apply pw_below_drewN | apply below_drew1 | refine below_set ?_ GEgs.out | refine below_set ?_ GEgt.out) | exact HB.out)) hb); have n8_ := Aside0.mk hbox; clear hcz19 hfz19 hcz20 hfz20 hcz21 hfz21 hcz22 hfz22 hcz23 hfz23 hcz24 hfz24; clear BKgs; clear BKgt; clear HB; have NBgs_gn := n0_; clear n0_; have NBgn_gs := n1_; clear n1_; have NBgt_gn := n2_; clear n2_; have NBgn_gt := n3_; clear n3_; have GEgn := n4_; clear n4_; have BKgs := n5_; clear n5_; have BKgt := n6_; clear n6_; have HB := n7_; clear n7_; have BKgn := n8_; clear n8_; clear hb hbox hg; have hcz25 : v6.cell? ⟨gs, 0, none⟩ = some (.int .i64 s.q) := (blk_cell BKgs.out 0).trans rfl; have hfz25 := blk_frozen BKgs.out 0; have hcz26 : v6.cell? ⟨gs, 1, none⟩ = some (.int .i64 s.g) := (blk_cell BKgs.out 1).trans rfl; have hfz26 := blk_frozen BKgs.out 1; have hcz27 : v6.cell? ⟨gs, 2, none⟩ = some (.int .i64 s.l) := (blk_cell BKgs.out 2).trans rfl; have hfz27 := blk_frozen BKgs.out 2; have hcz28 : v6.cell? ⟨gs, 3, none⟩ = some (.int .i64 s.r) := (blk_cell BKgs.out 3).trans rfl; have hfz28 := blk_frozen BKgs.out 3; have hcz29 : v6.cell? ⟨gs, 4, none⟩ = some (.int .i64 s.t) := (blk_cell BKgs.out 4).trans rfl; have hfz29 := blk_frozen BKgs.out 4; have hcz30 : v6.cell? ⟨gs, 5, none⟩ = some (.int .i64 s.c) := (blk_cell BKgs.out 5).trans rfl; have hfz30 := blk_frozen BKgs.out 5; have hcz31 : v6.cell? ⟨gn, 0, none⟩ = some (.int .i64 0) := (blk_cell BKgn.out 0).trans rfl; have hfz31 := blk_frozen BKgn.out 0; have hcz32 : v6.cell? ⟨gn, 1, none⟩ = some (.int .i64 0) := (blk_cell BKgn.out 1).trans rfl; have hfz32 := blk_frozen BKgn.out 1; have hcz33 : v6.cell? ⟨gn, 2, none⟩ = some (.int .i64 0) := (blk_cell BKgn.out 2).trans rfl; have hfz33 := blk_frozen BKgn.out 2; have hcz34 : v6.cell? ⟨gn, 3, none⟩ = some (.int .i64 0) := (blk_cell BKgn.out 3).trans rfl; have hfz34 := blk_frozen BKgn.out 3; have hcz35 : v6.cell? ⟨gn, 4, none⟩ = some (.int .i64 0) := (blk_cell BKgn.out 4).trans rfl; have hfz35 := blk_frozen BKgn.out 4; have hcz36 : v6.cell? ⟨gn, 5, none⟩ = some (.int .i64 0) := (blk_cell BKgn.out 5).trans rfl; have hfz36 := blk_frozen BKgn.out 5) | ((with_reducible refine gate_store (t := 61) (p := 9) rfl ?_); refine store_event (t := 61) (p := 9) (v := ?vo_v7) (w1 := ((((((v6.setCell ⟨gn, 0, none⟩ (.int .i64 s.q)).setCell ⟨gn, 1, none⟩ (.int .i64 s.g)).setCell ⟨gn, 2, none⟩ (.int .i64 s.l)).setCell ⟨gn, 3, none⟩ (.int .i64 s.r)).setCell ⟨gn, 4, none⟩ (.int .i64 s.t)).setCell ⟨gn, 5, none⟩ (.int .i64 s.c))) ?hg ?ho ?hn ?hr ?_; (case ho => rfl); (case hg => rfl); (case hn => rfl); (case hr => first | (go_simp; done) | (go_simp; rfl)); intro v7 hw; have n0_ := Aside0.mk (by rw [hw]; (with_reducible repeat (first | refine blk_drewN ?_ _ | refine blk_drew ?_ | refine blk_alloc ?_ _)); refine blk_far ?_ NBgs_gn.out _; (with_reducible repeat (first | refine blk_drewN ?_ _ | refine blk_drew ?_ | refine blk_alloc ?_ _)); refine blk_far ?_ NBgs_gn.out _; (with_reducible repeat (first | refine blk_drewN ?_ _ | refine blk_drew ?_ | refine blk_alloc ?_ _)); refine blk_far ?_ NBgs_gn.out _; (with_reducible repeat (first | refine blk_drewN ?_ _ | refine blk_drew ?_ | refine blk_alloc ?_ _)); refine blk_far ?_ NBgs_gn.out _; (with_reducible repeat (first | refine blk_drewN ?_ _ | refine blk_drew ?_ | refine blk_alloc ?_ _)); refine blk_far ?_ NBgs_gn.out _; (with_reducible repeat (first | refine blk_drewN ?_ _ | refine blk_drew ?_ | refine blk_alloc ?_ _)); refine blk_far ?_ NBgs_gn.out _; (with_reducible repeat (first | refine blk_drewN ?_ _ | refine blk_drew ?_ | refine blk_alloc ?_ _)); exact BKgs.out : v7.heap[gs]? = some (.cells #[.int .i64 s.q, .int .i64 s.g, .int .i64 s.l, .int .i64 s.r, .int .i64 s.t, .int .i64 s.c] 43 (0, 0))); have n1_ := Aside0.mk (by rw [hw]; (with_reducible repeat (first | refine blk_drewN ?_ _ | refine blk_drew ?_ | refine blk_alloc ?_ _)); refine blk_far ?_ NBgt_gn.out _; (with_reducible repeat (first | refine blk_drewN ?_ _ | refine blk_drew ?_ | refine blk_alloc ?_ _)); refine blk_far ?_ NBgt_gn.out _; (with_reducible repeat (first | refine blk_drewN ?_ _ | refine blk_drew ?_ | refine blk_alloc ?_ _)); refine blk_far ?_ NBgt_gn.out _; (with_reducible repeat (first | refine blk_drewN ?_ _ | refine blk_drew ?_ | refine blk_alloc ?_ _)); refine blk_far ?_ NBgt_gn.out _; (with_reducible repeat (first | refine blk_drewN ?_ _ | refine blk_drew ?_ | refine blk_alloc ?_ _)); refine blk_far ?_ NBgt_gn.out _; (with_reducible repeat (first | refine blk_drewN ?_ _ | refine blk_drew ?_ | refine blk_alloc ?_ _)); refine blk_far ?_ NBgt_gn.out _; (with_reducible repeat (first | refine blk_drewN ?_ _ | refine blk_drew ?_ | refine blk_alloc ?_ _)); exact BKgt.out : v7.heap[gt]? = some (.cells #[.int .i64 t.q, .int .i64 t.g, .int .i64 t.l, .int .i64 t.r, .int .i64 t.t, .int .i64 t.c] 43 (0, 0))); have n2_ := Aside0.mk (by rw [hw]; (with_reducible repeat (first | refine blk_drewN ?_ _ | refine blk_drew ?_ | refine blk_alloc ?_ _)); refine blk_put (cs := #[.int .i64 s.q, .int .i64 s.g, .int .i64 s.l, .int .i64 s.r, .int .i64 s.t, .int .i64 0]) ?_ 5 _ rfl; (with_reducible repeat (first | refine blk_drewN ?_ _ | refine blk_drew ?_ | refine blk_alloc ?_ _)); refine blk_put (cs := #[.int .i64 s.q, .int .i64 s.g, .int .i64 s.l, .int .i64 s.r, .int .i64 0, .int .i64 0]) ?_ 4 _ rfl; (with_reducible repeat (first | refine blk_drewN ?_ _ | refine blk_drew ?_ | refine blk_alloc ?_ _)); refine blk_put (cs := #[.int .i64 s.q, .int .i64 s.g, .int .i64 s.l, .int .i64 0, .int .i64 0, .int .i64 0]) ?_ 3 _ rfl; (with_reducible repeat (first | refine blk_drewN ?_ _ | refine blk_drew ?_ | refine blk_alloc ?_ _)); refine blk_put (cs := #[.int .i64 s.q, .int .i64 s.g, .int .i64 0, .int .i64 0, .int .i64 0, .int .i64 0]) ?_ 2 _ rfl; (with_reducible repeat (first | refine blk_drewN ?_ _ | refine blk_drew ?_ | refine blk_alloc ?_ _)); refine blk_put (cs := #[.int .i64 s.q, .int .i64 0, .int .i64 0, .int .i64 0, .int .i64 0, .int .i64 0]) ?_ 1 _ rfl; (with_reducible repeat (first | refine blk_drewN ?_ _ | refine blk_drew ?_ | refine blk_alloc ?_ _)); refine blk_put (cs := #[.int .i64 0, .int .i64 0, .int .i64 0, .int .i64 0, .int .i64 0, .int .i64 0]) ?_ 0 _ rfl; (with_reducible repeat (first | refine blk_drewN ?_ _ | refine blk_drew ?_ | refine blk_alloc ?_ _)); exact BKgn.out : v7.heap[gn]? = some (.cells #[.int .i64 s.q, .int .i64 s.g, .int .i64 s.l, .int .i64 s.r, .int .i64 s.t, .int .i64 s.c] 61 (0, 0))); have n3_ := Aside0.mk (by rw [hw]; repeat (first | (with_reducible first | exact HB.out | apply below_alloc | apply pw_below_drewN | apply below_drew1 | refine below_set ?_ GEgs.out | refine below_set ?_ GEgt.out | refine below_set ?_ GEgn.out) | exact HB.out) : Below w.heap.size w v7); clear hcz25 hfz25 hcz26 hfz26 hcz27 hfz27 hcz28 hfz28 hcz29 hfz29 hcz30 hfz30 hcz31 hfz31 hcz32 hfz32 hcz33 hfz33 hcz34 hfz34 hcz35 hfz35 hcz36 hfz36; clear BKgs; clear BKgt; clear BKgn; clear HB; have BKgs := n0_; clear n0_; have BKgt := n1_; clear n1_; have BKgn := n2_; clear n2_; have HB := n3_; clear n3_; clear hw; have hcz37 : v7.cell? ⟨gs, 0, none⟩ = some (.int .i64 s.q) := (blk_cell BKgs.out 0).trans rfl; have hfz37 := blk_frozen BKgs.out 0; have hcz38 : v7.cell? ⟨gs, 1, none⟩ = some (.int .i64 s.g) := (blk_cell BKgs.out 1).trans rfl; have hfz38 := blk_frozen BKgs.out 1; have hcz39 : v7.cell? ⟨gs, 2, none⟩ = some (.int .i64 s.l) := (blk_cell BKgs.out 2).trans rfl; have hfz39 := blk_frozen BKgs.out 2; have hcz40 : v7.cell? ⟨gs, 3, none⟩ = some (.int .i64 s.r) := (blk_cell BKgs.out 3).trans rfl; have hfz40 := blk_frozen BKgs.out 3; have hcz41 : v7.cell? ⟨gs, 4, none⟩ = some (.int .i64 s.t) := (blk_cell BKgs.out 4).trans rfl; have hfz41 := blk_frozen BKgs.out 4; have hcz42 : v7.cell? ⟨gs, 5, none⟩ = some (.int .i64 s.c) := (blk_cell BKgs.out 5).trans rfl; have hfz42 := blk_frozen BKgs.out 5) | ((with_reducible refine gate_dst (N := 10) rfl ?_); (try (refine gate_guard (by rfl) ?_; dsimp only)); refine box_event ?hg (N := 10) ?hd (cs := #[.int .i64 0, .int .i64 0, .int .i64 0, .int .i64 0, .int .i64 0, .int .i64 0]) (t := 61) ?hr ?_; (case hd => rfl); (case hg => rfl); (case hr => first | (go_simp; done) | (go_simp; rfl)); intro gz hg v8 hbox hb; have n0_ := Aside0.mk (by rw [hg]; exact Nat.ne_of_lt (blk_lt (g := gs) (o := .cells #[.int .i64 s.q, .int .i64 s.g, .int .i64 s.l, .int .i64 s.r, .int .i64 s.t, .int .i64 s.c] 43 (0, 0)) (by (with_reducible repeat (first | refine blk_drewN ?_ _ | refine blk_drew ?_ | refine blk_alloc ?_ _)); exact BKgs.out)) : gs ≠ gz); have n1_ := Aside0.mk (by rw [hg]; exact Nat.ne_of_gt (blk_lt (g := gs) (o := .cells #[.int .i64 s.q, .int .i64 s.g, .int .i64 s.l, .int .i64 s.r, .int .i64 s.t, .int .i64 s.c] 43 (0, 0)) (by (with_reducible repeat (first | refine blk_drewN ?_ _ | refine blk_drew ?_ | refine blk_alloc ?_ _)); exact BKgs.out)) : gz ≠ gs); have n2_ := Aside0.mk (by rw [hg]; exact Nat.ne_of_lt (blk_lt (g := gt) (o := .cells #[.int .i64 t.q, .int .i64 t.g, .int .i64 t.l, .int .i64 t.r, .int .i64 t.t, .int .i64 t.c] 43 (0, 0)) (by (with_reducible repeat (first | refine blk_drewN ?_ _ | refine blk_drew ?_ | refine blk_alloc ?_ _)); exact BKgt.out)) : gt ≠ gz); have n3_ := Aside0.mk (by rw [hg]; exact Nat.ne_of_gt (blk_lt (g := gt) (o := .cells #[.int .i64 t.q, .int .i64 t.g, .int .i64 t.l, .int .i64 t.r, .int .i64 t.t, .int .i64 t.c] 43 (0, 0)) (by (with_reducible repeat (first | refine blk_drewN ?_ _ | refine blk_drew ?_ | refine blk_alloc ?_ _)); exact BKgt.out)) : gz ≠ gt); have n4_ := Aside0.mk (by rw [hg]; exact Nat.ne_of_lt (blk_lt (g := gn) (o := .cells #[.int .i64 s.q, .int .i64 s.g, .int .i64 s.l, .int .i64 s.r, .int .i64 s.t, .int .i64 s.c] 61 (0, 0)) (by (with_reducible repeat (first | refine blk_drewN ?_ _ | refine blk_drew ?_ | refine blk_alloc ?_ _)); exact BKgn.out)) : gn ≠ gz); have n5_ := Aside0.mk (by rw [hg]; exact Nat.ne_of_gt (blk_lt (g := gn) (o := .cells #[.int .i64 s.q, .int .i64 s.g, .int .i64 s.l, .int .i64 s.r, .int .i64 s.t, .int .i64 s.c] 61 (0, 0)) (by (with_reducible repeat (first | refine blk_drewN ?_ _ | refine blk_drew ?_ | refine blk_alloc ?_ _)); exact BKgn.out)) : gz ≠ gn); have n6_ := Aside0.mk (by rw [hg]; exact below_size (by repeat (first | (with_reducible first | exact HB.out | apply below_alloc | apply pw_below_drewN | apply below_drew1 | refine below_set ?_ GEgs.out | refine below_set ?_ GEgt.out | refine below_set ?_ GEgn.out) | exact HB.out)) : w.heap.size ≤ gz); have n7_ := Aside0.mk (blk_below (g := gs) (o := .cells #[.int .i64 s.q, .int .i64 s.g, .int .i64 s.l, .int .i64 s.r, .int .i64 s.t, .int .i64 s.c] 43 (0, 0)) (by (with_reducible repeat (first | refine blk_drewN ?_ _ | refine blk_drew ?_ | refine blk_alloc ?_ _)); exact BKgs.out) hb); have n8_ := Aside0.mk (blk_below (g := gt) (o := .cells #[.int .i64 t.q, .int .i64 t.g, .int .i64 t.l, .int .i64 t.r, .int .i64 t.t, .int .i64 t.c] 43 (0, 0)) (by (with_reducible repeat (first | refine blk_drewN ?_ _ | refine blk_drew ?_ | refine blk_alloc ?_ _)); exact BKgt.out) hb); have n9_ := Aside0.mk (blk_below (g := gn) (o := .cells #[.int .i64 s.q, .int .i64 s.g, .int .i64 s.l, .int .i64 s.r, .int .i64 s.t, .int .i64 s.c] 61 (0, 0)) (by (with_reducible repeat (first | refine blk_drewN ?_ _ | refine blk_drew ?_ | refine blk_alloc ?_ _)); exact BKgn.out) hb); have n10_ := Aside0.mk (below_step (by repeat (first | (with_reducible first | exact HB.out | apply below_alloc | apply pw_below_drewN | apply below_drew1 | refine below_set ?_ GEgs.out | refine below_set ?_ GEgt.out | refine below_set ?_ GEgn.out) | exact HB.out)) hb); have n11_ := Aside0.mk hbox; clear hcz37 hfz37 hcz38 hfz38 hcz39 hfz39 hcz40 hfz40 hcz41 hfz41 hcz42 hfz42; clear BKgs; clear BKgt; clear BKgn; clear HB; have NBgs_gz := n0_; clear n0_; have NBgz_gs := n1_; clear n1_; have NBgt_gz := n2_; clear n2_; have NBgz_gt := n3_; clear n3_; have NBgn_gz := n4_; clear n4_; have NBgz_gn := n5_; clear n5_; have GEgz := n6_; clear n6_; have BKgs := n7_; clear n7_; have BKgt := n8_; clear n8_; have BKgn := n9_; clear n9_; have HB := n10_; clear n10_; have BKgz := n11_; clear n11_; clear hb hbox hg; have hcz43 : v8.cell? ⟨gz, 0, none⟩ = some (.int .i64 0) := (blk_cell BKgz.out 0).trans rfl; have hfz43 := blk_frozen BKgz.out 0; have hcz44 : v8.cell? ⟨gz, 1, none⟩ = some (.int .i64 0) := (blk_cell BKgz.out 1).trans rfl; have hfz44 := blk_frozen BKgz.out 1; have hcz45 : v8.cell? ⟨gz, 2, none⟩ = some (.int .i64 0) := (blk_cell BKgz.out 2).trans rfl; have hfz45 := blk_frozen BKgz.out 2; have hcz46 : v8.cell? ⟨gz, 3, none⟩ = some (.int .i64 0) := (blk_cell BKgz.out 3).trans rfl; have hfz46 := blk_frozen BKgz.out 3; have hcz47 : v8.cell? ⟨gz, 4, none⟩ = some (.int .i64 0) := (blk_cell BKgz.out 4).trans rfl; have hfz47 := blk_frozen BKgz.out 4; have hcz48 : v8.cell? ⟨gz, 5, none⟩ = some (.int .i64 0) := (blk_cell BKgz.out 5).trans rfl; have hfz48 := blk_frozen BKgz.out 5) | ((with_reducible refine gate_store (t := 61) (p := 10) rfl ?_); refine store_event (t := 61) (p := 10) (v := ?vo_v9) (w1 := ((((((v8.setCell ⟨gz, 0, none⟩ (.int .i64 4)).setCell ⟨gz, 1, none⟩ (.int .i64 4)).setCell ⟨gz, 2, none⟩ (.int .i64 2)).setCell ⟨gz, 3, none⟩ (.int .i64 2)).setCell ⟨gz, 4, none⟩ (.int .i64 2)).setCell ⟨gz, 5, none⟩ (.int .i64 1))) ?hg ?ho ?hn ?hr ?_; (case ho => rfl); (case hg => rfl); (case hn => rfl); (case hr => first | (go_simp; done) | (go_simp; rfl)); intro v9 hw; have n0_ := Aside0.mk (by rw [hw]; (with_reducible repeat (first | refine blk_drewN ?_ _ | refine blk_drew ?_ | refine blk_alloc ?_ _)); refine blk_far ?_ NBgs_gz.out _; (with_reducible repeat (first | refine blk_drewN ?_ _ | refine blk_drew ?_ | refine blk_alloc ?_ _)); refine blk_far ?_ NBgs_gz.out _; (with_reducible repeat (first | refine blk_drewN ?_ _ | refine blk_drew ?_ | refine blk_alloc ?_ _)); refine blk_far ?_ NBgs_gz.out _; (with_reducible repeat (first | refine blk_drewN ?_ _ | refine blk_drew ?_ | refine blk_alloc ?_ _)); refine blk_far ?_ NBgs_gz.out _; (with_reducible repeat (first | refine blk_drewN ?_ _ | refine blk_drew ?_ | refine blk_alloc ?_ _)); refine blk_far ?_ NBgs_gz.out _; (with_reducible repeat (first | refine blk_drewN ?_ _ | refine blk_drew ?_ | refine blk_alloc ?_ _)); refine blk_far ?_ NBgs_gz.out _; (with_reducible repeat (first | refine blk_drewN ?_ _ | refine blk_drew ?_ | refine blk_alloc ?_ _)); exact BKgs.out : v9.heap[gs]? = some (.cells #[.int .i64 s.q, .int .i64 s.g, .int .i64 s.l, .int .i64 s.r, .int .i64 s.t, .int .i64 s.c] 43 (0, 0))); have n1_ := Aside0.mk (by rw [hw]; (with_reducible repeat (first | refine blk_drewN ?_ _ | refine blk_drew ?_ | refine blk_alloc ?_ _)); refine blk_far ?_ NBgt_gz.out _; (with_reducible repeat (first | refine blk_drewN ?_ _ | refine blk_drew ?_ | refine blk_alloc ?_ _)); refine blk_far ?_ NBgt_gz.out _; (with_reducible repeat (first | refine blk_drewN ?_ _ | refine blk_drew ?_ | refine blk_alloc ?_ _)); refine blk_far ?_ NBgt_gz.out _; (with_reducible repeat (first | refine blk_drewN ?_ _ | refine blk_drew ?_ | refine blk_alloc ?_ _)); refine blk_far ?_ NBgt_gz.out _; (with_reducible repeat (first | refine blk_drewN ?_ _ | refine blk_drew ?_ | refine blk_alloc ?_ _)); refine blk_far ?_ NBgt_gz.out _; (with_reducible repeat (first | refine blk_drewN ?_ _ | refine blk_drew ?_ | refine blk_alloc ?_ _)); refine blk_far ?_ NBgt_gz.out _; (with_reducible repeat (first | refine blk_drewN ?_ _ | refine blk_drew ?_ | refine blk_alloc ?_ _)); exact BKgt.out : v9.heap[gt]? = some (.cells #[.int .i64 t.q, .int .i64 t.g, .int .i64 t.l, .int .i64 t.r, .int .i64 t.t, .int .i64 t.c] 43 (0, 0))); have n2_ := Aside0.mk (by rw [hw]; (with_reducible repeat (first | refine blk_drewN ?_ _ | refine blk_drew ?_ | refine blk_alloc ?_ _)); refine blk_far ?_ NBgn_gz.out _; (with_reducible repeat (first | refine blk_drewN ?_ _ | refine blk_drew ?_ | refine blk_alloc ?_ _)); refine blk_far ?_ NBgn_gz.out _; (with_reducible repeat (first | refine blk_drewN ?_ _ | refine blk_drew ?_ | refine blk_alloc ?_ _)); refine blk_far ?_ NBgn_gz.out _; (with_reducible repeat (first | refine blk_drewN ?_ _ | refine blk_drew ?_ | refine blk_alloc ?_ _)); refine blk_far ?_ NBgn_gz.out _; (with_reducible repeat (first | refine blk_drewN ?_ _ | refine blk_drew ?_ | refine blk_alloc ?_ _)); refine blk_far ?_ NBgn_gz.out _; (with_reducible repeat (first | refine blk_drewN ?_ _ | refine blk_drew ?_ | refine blk_alloc ?_ _)); refine blk_far ?_ NBgn_gz.out _; (with_reducible repeat (first | refine blk_drewN ?_ _ | refine blk_drew ?_ | refine blk_alloc ?_ _)); exact BKgn.out : v9.heap[gn]? = some (.cells #[.int .i64 s.q, .int .i64 s.g, .int .i64 s.l, .int .i64 s.r, .int .i64 s.t, .int .i64 s.c] 61 (0, 0))); have n3_ := Aside0.mk (by rw [hw]; (with_reducible repeat (first | refine blk_drewN ?_ _ | refine blk_drew ?_ | refine blk_alloc ?_ _)); refine blk_put (cs := #[.int .i64 4, .int .i64 4, .int .i64 2, .int .i64 2, .int .i64 2, .int .i64 0]) ?_ 5 _ rfl; (with_reducible repeat (first | refine blk_drewN ?_ _ | refine blk_drew ?_ | refine blk_alloc ?_ _)); refine blk_put (cs := #[.int .i64 4, .int .i64 4, .int .i64 2, .int .i64 2, .int .i64 0, .int .i64 0]) ?_ 4 _ rfl; (with_reducible repeat (first | refine blk_drewN ?_ _ | refine blk_drew ?_ | refine blk_alloc ?_ _)); refine blk_put (cs := #[.int .i64 4, .int .i64 4, .int .i64 2, .int .i64 0, .int .i64 0, .int .i64 0]) ?_ 3 _ rfl; (with_reducible repeat (first | refine blk_drewN ?_ _ | refine blk_drew ?_ | refine blk_alloc ?_ _)); refine blk_put (cs := #[.int .i64 4, .int .i64 4, .int .i64 0, .int .i64 0, .int .i64 0, .int .i64 0]) ?_ 2 _ rfl; (with_reducible repeat (first | refine blk_drewN ?_ _ | refine blk_drew ?_ | refine blk_alloc ?_ _)); refine blk_put (cs := #[.int .i64 4, .int .i64 0, .int .i64 0, .int .i64 0, .int .i64 0, .int .i64 0]) ?_ 1 _ rfl; (with_reducible repeat (first | refine blk_drewN ?_ _ | refine blk_drew ?_ | refine blk_alloc ?_ _)); refine blk_put (cs := #[.int .i64 0, .int .i64 0, .int .i64 0, .int .i64 0, .int .i64 0, .int .i64 0]) ?_ 0 _ rfl; (with_reducible repeat (first | refine blk_drewN ?_ _ | refine blk_drew ?_ | refine blk_alloc ?_ _)); exact BKgz.out : v9.heap[gz]? = some (.cells #[.int .i64 4, .int .i64 4, .int .i64 2, .int .i64 2, .int .i64 2, .int .i64 1] 61 (0, 0))); have n4_ := Aside0.mk (by rw [hw]; repeat (first | (with_reducible first | exact HB.out | apply below_alloc | apply pw_below_drewN | apply below_drew1 | refine below_set ?_ GEgs.out | refine below_set ?_ GEgt.out | refine below_set ?_ GEgn.out | refine below_set ?_ GEgz.out) | exact HB.out) : Below w.heap.size w v9); clear hcz43 hfz43 hcz44 hfz44 hcz45 hfz45 hcz46 hfz46 hcz47 hfz47 hcz48 hfz48; clear BKgs; clear BKgt; clear BKgn; clear BKgz; clear HB; have BKgs := n0_; clear n0_; have BKgt := n1_; clear n1_; have BKgn := n2_; clear n2_; have BKgz := n3_; clear n3_; have HB := n4_; clear n4_; clear hw))
  have kgn := BKgn.out; have kgz := BKgz.out; have kbel := HB.out
  clear HB BKgs BKgt BKgn BKgz
  go_loopw [11, 12] (fun v11 v12 w' => ∃ (i : Nat), i ≤ 6 ∧ v12 = .int .i64 (i : Int) ∧ v11 = .int .i64 ((offs i : Nat) : Int) ∧ w'.heap[gn]? = some (.cells #[.int .i64 s.q, .int .i64 s.g, .int .i64 s.l, .int .i64 s.r, .int .i64 s.t, .int .i64 s.c] 61 (0, 0)) ∧ w'.heap[gz]? = some (.cells #[.int .i64 4, .int .i64 4, .int .i64 2, .int .i64 2, .int .i64 2, .int .i64 1] 61 (0, 0)) ∧ Below w.heap.size w w') (fun _ v12 _ => 6 - (intOf v12).toNat)
  case atStart => exact ⟨0, by omega, rfl, rfl, (by (with_reducible repeat (first | refine blk_drewN ?_ _ | refine blk_drew ?_)); exact kgn), (by (with_reducible repeat (first | refine blk_drewN ?_ _ | refine blk_drew ?_)); exact kgz), (by repeat (first | (with_reducible first | exact kbel | apply pw_below_drewN | apply below_drew1) | exact kbel))⟩
  clear kgn kgz kbel
  case round =>
    obtain ⟨i, hi, rfl, rfl, hgn, hgz, hb⟩ := hrel
    by_cases hlt : i < 6
    · have hi6 : ((i : Int) < 6) = True := eq_true (by omega)
      have hi0 : (0 ≤ (i : Int)) = True := eq_true (by omega)
      have hcn := fld_at s hgn i hlt
      have hnx := offs_next i hlt
      have hol := offs_le i
      have hol2 := offs_le (i + 1)
      have hsl := szs_le i
      have hnum := HN.out i hlt
      have Hnx := Lib.hid hnx; have Hol := Lib.hid hol; have Hol2 := Lib.hid hol2; have Hsl := Lib.hid hsl; have Hnum := Lib.hid hnum; have Hlt := Lib.hid hlt
      clear hnx hol hol2 hsl hnum hcn hlt hi
      go_wp2
      go_loopw [11, 13, 14] (fun v11 v13 v14 w' => ∃ (k : Nat), k ≤ szs i ∧ v14 = .int .i64 (k : Int) ∧ v11 = .int .i64 ((offs i + k : Nat) : Int) ∧ v13 = .int .i64 (numA A (offs i) (offs i + k)) ∧ w'.heap[gn]? = some (.cells #[.int .i64 s.q, .int .i64 s.g, .int .i64 s.l, .int .i64 s.r, .int .i64 s.t, .int .i64 s.c] 61 (0, 0)) ∧ w'.heap[gz]? = some (.cells #[.int .i64 4, .int .i64 4, .int .i64 2, .int .i64 2, .int .i64 2, .int .i64 1] 61 (0, 0)) ∧ Below w.heap.size w w') (fun _ _ v14 _ => 4 - (intOf v14).toNat)
      case atStart => exact ⟨0, by omega, rfl, by rw [Nat.add_zero], by rw [Nat.add_zero, num_zero], (by (with_reducible repeat (first | refine blk_drewN ?_ _ | refine blk_drew ?_)); exact hgn), (by (with_reducible repeat (first | refine blk_drewN ?_ _ | refine blk_drew ?_)); exact hgz), (by repeat (first | (with_reducible first | exact hb | apply pw_below_drewN | apply below_drew1) | exact hb))⟩
      clear hgn hgz hb
      case round =>
        obtain ⟨k, hk, rfl, rfl, rfl, hgn, hgz, hb⟩ := hrel
        have hcz := szs_at hgz i Hlt.out
        have hi6 : ((i : Int) < 6) = True := eq_true (by have := Hlt.out; omega)
        have hi0 : (0 ≤ (i : Int)) = True := eq_true (by omega)
        by_cases hks : k < szs i
        · have hkb : decide ((k : Int) < ((szs i : Nat) : Int)) = true := decide_eq_true (by omega)
          obtain ⟨j, hj⟩ : ∃ j, j = offs i + k := ⟨_, rfl⟩
          have hjl : j < 60 := by have h1 := Hol.out; have h2 := Hsl.out; omega
          have hjA := HAs.out j hjl
          have hst := num_step A (offs i) j hjA (by omega) (by have := Hsl.out; omega)
          have q0 : 0 ≤ (j : Int) := by omega
          have q1 : (j : Int) < (A.size : Int) := by omega
          have hx5 := (bt_at' A j hjA).symm
          have q0 := eq_true q0; have q1 := eq_true q1
          have hj1 : wrap64 ((j : Int) + 1) = ((j + 1 : Nat) : Int) := w64 j (by omega)
          have hk1 : wrap64 ((k : Int) + 1) = ((k + 1 : Nat) : Int) := w64 k (Nat.lt_trans (lt_four hks) (by decide))
          rw [← hj]
          have Hst := Lib.hid hst; have Hj := Lib.hid hj; have Hks := Lib.hid hks; have Hjl := Lib.hid hjl
          clear hst hj hks hjl hk
          go_wp2
          refine ⟨⟨k + 1, by have := Hks.out; omega, by go_num, by have := Hj.out; rw [← Nat.add_assoc, ← this]; go_num, by have := Hj.out; rw [← Nat.add_assoc, ← this, ← Hst.out], (by (with_reducible repeat (first | refine blk_drewN ?_ _ | refine blk_drew ?_)); exact hgn), (by (with_reducible repeat (first | refine blk_drewN ?_ _ | refine blk_drew ?_)); exact hgz), (by repeat (first | (with_reducible first | exact hb | apply pw_below_drewN | apply below_drew1) | exact hb))⟩, ?_⟩
          rw [hk1]; exact meas 4 k (lt_four Hks.out)
        · have hkb : decide ((k : Int) < ((szs i : Nat) : Int)) = false := decide_eq_false (by omega)
          obtain rfl : k = szs i := by omega
          have hcn := fld_at s hgn i Hlt.out
          rw [Hnum.out]
          rw [Hnx.out]
          obtain ⟨y, hy⟩ : ∃ y, y = fld s i := ⟨_, rfl⟩
          rw [← hy] at hcn ⊢
          clear hy hk hks
          have hi1 : wrap64 ((i : Int) + 1) = ((i + 1 : Nat) : Int) := w64 i (Nat.lt_trans Hlt.out (by decide))
          go_wp2
          refine ⟨⟨i + 1, by have := Hlt.out; omega, by go_num, rfl, (by (with_reducible repeat (first | refine blk_drewN ?_ _ | refine blk_drew ?_)); exact hgn), (by (with_reducible repeat (first | refine blk_drewN ?_ _ | refine blk_drew ?_)); exact hgz), (by repeat (first | (with_reducible first | exact hb | apply pw_below_drewN | apply below_drew1) | exact hb))⟩, ?_⟩
          rw [hi1]; exact meas 6 i Hlt.out
    · have hi6 : decide ((i : Int) < 6) = false := decide_eq_false (by omega)
      obtain rfl : i = 6 := by omega
      clear hlt hi hgn hgz
      rw [show offs 6 = 19 from rfl]
      go_wp2
      go_loopw [11] (fun v11 w' => ∃ (j : Nat), 19 ≤ j ∧ j ≤ 60 ∧ v11 = .int .i64 (j : Int) ∧ Below w.heap.size w w') (fun v11 _ => 60 - (intOf v11).toNat)
      case atStart => exact ⟨19, by omega, by omega, rfl, by repeat (first | (with_reducible first | exact hb | apply pw_below_drewN | apply below_drew1) | exact hb)⟩
      clear hb
      case round =>
        obtain ⟨j, h19, hj, rfl, hb⟩ := hrel
        by_cases hjl : j < 60
        · have hjb : decide ((j : Int) < 60) = true := decide_eq_true (by omega)
          have hjA := HAs.out j hjl
          have hz := HZ.out j h19 hjl
          have q0 : 0 ≤ (j : Int) := by omega
          have q1 : (j : Int) < (A.size : Int) := by omega
          have hx5 := (bt_at' A j hjA).symm
          rw [hz] at hx5
          have q0 := eq_true q0; have q1 := eq_true q1
          have h19 := Lib.hid h19; have hjl := Lib.hid hjl
          clear hz hj
          go_wp2
          refine ⟨⟨j + 1, by have := h19.out; omega, by have := hjl.out; omega, by go_num, by repeat (first | (with_reducible first | exact hb | apply pw_below_drewN | apply below_drew1) | exact hb)⟩, ?_⟩
          exact meas 60 j hjl.out
        · have hjb : decide ((j : Int) < 60) = false := decide_eq_false (by omega)
          have HB := Aside0.mk hb; clear hb hjl hj h19
          go_wp2_with fail
          with_reducible refine (CW.out _ (Glob.below HG.out (by repeat (first | (with_reducible first | exact HB.out | apply pw_below_drewN | apply below_drew1) | exact HB.out)))).mono ?_
          rintro e v20 ⟨rfl, hb⟩
          have HB2 := Aside0.mk (below_step (by repeat (first | (with_reducible first | exact HB.out | apply pw_below_drewN | apply below_drew1) | exact HB.out)) hb); clear HB hb
          go_wp2_with fail
          go_ret
          exact ⟨rfl, by repeat (first | (with_reducible first | exact HB2.out | apply pw_below_drewN | apply below_drew1) | exact HB2.out)⟩
end Go.Proofs.YtiajgmocmnjijaaDoor.SupF
