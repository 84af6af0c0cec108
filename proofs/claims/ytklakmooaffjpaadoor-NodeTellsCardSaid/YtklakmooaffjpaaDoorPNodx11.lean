-- Written by a program of this session for this seat. Not trusted: Lean checks it.
import Derived.Test.YtklakmooaffjpaaDoorSQ
import Derived.Test.YtklakmooaffjpaaDoorPNodx0
import Derived.Test.YtklakmooaffjpaaDoorPNodx9
namespace Go.Proofs.YtklakmooaffjpaaDoor.PNod
open Go.RowKit Go.Proofs.YtklakmooaffjpaaDoorW.PrintWords Go.Proofs.YtklakmooaffjpaaDoorW.PrintLast Go.Proofs.YtklakmooaffjpaaDoorW.PrintMore
attribute [local go_sem] max2_int min2_int max_two min_two max_three min_three max_four min_four   -- for this text's walks alone
set_option linter.unusedVariables false
set_option linter.unusedSimpArgs false
open Go.Proofs.YtklakmooaffjpaaDoor.HW Go.Proofs.YtklakmooaffjpaaDoor.DgsB

/-! ### r2Of: function 43 -/
def r2Of.l0 : Nat → ByteArray → List Int → Int → Option (ByteArray)
 | 0, _, _, _ => none
 | k + 1, x0, x3, x4 => if x4 < (x0.size : Int) then (if 0 ≤ x4 then ((some (([(Int.tdiv (bt x0 x4) 16) % 256, Int.tmod (bt x0 x4) 16] : List Int) : List Int)).bind fun y259 => (if x3.length + y259.length < 140737488355328 then (r2Of.l0 k x0 (x3 ++ y259) (wrap64 (x4 + 1))) else (none))) else (none)) else (some (strOfNums x3))
def r2Of.f (k : Nat) (a0 : ByteArray) : Option (ByteArray) := r2Of.l0 k a0 ([] : List Int) 0
def r2Of.T5 : Bool × List (List Nat × List Nat) := (true, [([], []), ([], []), ([], []), ([1, 2], [1, 2]), ([3], [3]), ([], []), ([], []), ([5, 6], [5, 6]), ([7], [7]), ([4, 8], [4, 8]), ([0, 9], [0, 9]), ([10, 10, 0, 1, 2, 3, 4, 5, 6, 7, 8, 9, 10], [0, 10])])
def r2Of.B5 : List Nat := [0, 0, 0, 6, 14, 0, 0, 96, 224, 510, 1023, 2047]
theorem r2Of.tab5 : rtab .any (opsOf Tryd.f43 5) = r2Of.T5 := by kernel_rfl
theorem r2Of.bits5 : waitsOk r2Of.T5.2 r2Of.B5 = true := by kernel_rfl
set_option maxHeartbeats 8000000 in
set_option maxRecDepth 100000 in
theorem r2Of.calls (k : Nat) (a0 : ByteArray) (r : ByteArray) (w : World) (h : r2Of.f k a0 = some r) :
  Calls Tryd.prog 43 #[.string a0] w fun e w' => e = .returned (.string r) ∧ Below w.heap.size w w' := by
 have HB := A0_.mk (Below.refl w.heap.size w)
 have H : (r2Of.l0 k a0 ([] : List Int) 0) = some r := h
 clear h
 have H' := A0_.mk H
 clear H
 go_enter Tryd.func43, Tryd.ntmps43
 go_wp2
 go_loopg [3, 4] k (fun kq v3 v4 w' => ∃ (x3_1 : List Int) (x4_1 : Int), v4 = .int .i64 x4_1 ∧ A0_ (r2Of.l0 kq a0 x3_1 x4_1 = some r) ∧ A0_ (kq ≤ k) ∧ A0_ (Kd.R (Kd.int .u8) 5 w' w.heap.size (fun _ => True) v3 x3_1) ∧ A0_ (Below w.heap.size w w'))
 case atStart => exact ⟨(([] : List Int)), (0), (by first | rfl | (simp; done) | (simp [*]; done)), H', ⟨Nat.le_refl _⟩, ⟨by first | exact Kd.R_nil _ _ _ _ _ | exact Kd.N_nil _ _ _ _ _ | exact Kd.V_nil _ _ _ _ _ | exact Kd.Q_nil _ _ _ _ _ | exact Kd.S_nil _ _ _ _ _⟩, ⟨SQ.bw⟩⟩
 case round =>
  clear H'
  obtain ⟨x3_1, x4_1, rfl, HA, HK1, HO_3, HB⟩ := hrel
  cases gk with
  | zero => exact absurd HA.out (by simp [r2Of.l0])
  | succ k1 =>
   have H := HA.out
   clear HA
   simp only [r2Of.l0] at H
   by_cases c2 : x4_1 < (a0.size : Int)
   ·rw [if_pos c2] at H
    have c2b0 : decide (x4_1 < (a0.size : Int)) = true := decide_eq_true c2
    clear c2
    by_cases c3 : 0 ≤ x4_1
    rotate_left
    ·rw [if_neg c3] at H
     exact absurd H (by simp)
    rw [if_pos c3] at H
    have c3b0 : decide (0 ≤ x4_1) = true := decide_eq_true c3
    clear c3
    obtain ⟨y259, hy259⟩ : ∃ y_ : List Int, y_ = (([(Int.tdiv (bt a0 x4_1) 16) % 256, Int.tmod (bt a0 x4_1) 16] : List Int)) := ⟨_, rfl⟩
    replace H : (if x3_1.length + y259.length < 140737488355328 then (r2Of.l0 k1 a0 (x3_1 ++ y259) (wrap64 (x4_1 + 1))) else (none)) = some r := by first | (rw [hy259]; with_reducible exact H) | (have H2_ := (Option.bind_some _ _).symm.trans H; rw [hy259]; with_reducible exact H2_) | (have H2_ := (Option.bind_some _ _).symm.trans H; with_reducible exact H2_) | with_reducible exact H | (rw [hy259]; exact H) | exact H
    have Ny259 := A0_.mk hy259
    clear hy259
    by_cases c6 : x3_1.length + y259.length < 140737488355328
    rotate_left
    ·rw [if_neg c6] at H
     exact absurd H (by simp)
    rw [if_pos c6] at H
    have LMc6 := A0_.mk c6
    clear c6
    obtain ⟨y262, hy262⟩ : ∃ y_ : List Int, y_ = (x3_1 ++ y259) := ⟨_, rfl⟩
    replace H : (r2Of.l0 k1 a0 y262 (wrap64 (x4_1 + 1))) = some r := by first | (rw [hy262]; with_reducible exact H) | (have H2_ := (Option.bind_some _ _).symm.trans H; rw [hy262]; with_reducible exact H2_) | (have H2_ := (Option.bind_some _ _).symm.trans H; with_reducible exact H2_) | with_reducible exact H | (rw [hy262]; exact H) | exact H
    have Ny262 := A0_.mk hy262
    clear hy262
    have H' := A0_.mk H
    clear H
    try go_wp2
    replace HO_3 := A0_.mk (Kd.R_drew HO_3.out)
    replace HB := A0_.mk (wD HB.out)
    have p4 : 0 ≤ (x4_1 : Int) := SQ.da
    have q4 : x4_1 < (a0.size : Int) := SQ.da
    have hx4 := bt_at a0 x4_1
    replace p4 := eq_true p4
    replace q4 := eq_true q4
    have p5 : 0 ≤ (x4_1 : Int) := SQ.da
    have q5 : x4_1 < (a0.size : Int) := SQ.da
    have hx5 := bt_at a0 x4_1
    replace p5 := eq_true p5
    replace q5 := eq_true q5
    refine start_ (n := 12) (S := fun w' => True) (ds := []) #[false, false, false, false, false, false, false, false, false, false, false, false] (by kernel_rfl) rfl rfl trivial (fun hHeld => ?_); refine with_tabW r2Of.tab5 r2Of.bits5 (fun HT_ HW_ => ?_)
    generalize wr.drew = w7 at HO_3 HB hHeld ⊢
    refine pure_ (i := 0) (N := some 11) (v := ?_) (a' := ?_) #[true, false, false, false, false, false, false, false, false, false, false, false] rfl rfl (any_of HT_.out (by kernel_rfl)) (fun _ _ _ h => h) (Or.inl ⟨by rfl, ?_⟩) ?_ ?_
    rotate_left
    ·intro w'
     go_simp
     with_reducible rfl
    rotate_left
    ·simp only [Act.put, List.setIfInBounds_toArray, List.set_cons_zero, List.set_cons_succ, i64_w, i32_w]
     rfl
    refine pure_ (i := 1) (N := some 12) (v := ?_) (a' := ?_) #[true, true, false, false, false, false, false, false, false, false, false, false] rfl rfl (any_of HT_.out (by kernel_rfl)) (fun _ _ _ h => h) (Or.inl ⟨by rfl, ?_⟩) ?_ ?_
    rotate_left
    ·intro w'
     go_simp
     with_reducible rfl
    rotate_left
    ·simp only [Act.put, List.setIfInBounds_toArray, List.set_cons_zero, List.set_cons_succ, i64_w, i32_w]
     rfl
    refine pure_ (i := 2) (N := some 13) (v := ?_) (a' := ?_) #[true, true, true, false, false, false, false, false, false, false, false, false] rfl rfl (any_of HT_.out (by kernel_rfl)) (fun _ _ _ h => h) (Or.inl ⟨by rfl, ?_⟩) ?_ ?_
    rotate_left
    ·intro w'
     go_simp
     with_reducible rfl
    rotate_left
    ·simp only [Act.put, List.setIfInBounds_toArray, List.set_cons_zero, List.set_cons_succ, i64_w, i32_w]
     rfl
    refine pure_ (i := 5) (N := some 16) (v := ?_) (a' := ?_) #[true, true, true, false, false, true, false, false, false, false, false, false] rfl rfl (any_of HT_.out (by kernel_rfl)) (fun _ _ _ h => h) (Or.inl ⟨by rfl, ?_⟩) ?_ ?_
    rotate_left
    ·intro w'
     go_simp
     with_reducible rfl
    rotate_left
    ·simp only [Act.put, List.setIfInBounds_toArray, List.set_cons_zero, List.set_cons_succ, i64_w, i32_w]
     rfl
    refine pure_ (i := 6) (N := some 17) (v := ?_) (a' := ?_) #[true, true, true, false, false, true, true, false, false, false, false, false] rfl rfl (any_of HT_.out (by kernel_rfl)) (fun _ _ _ h => h) (Or.inl ⟨by rfl, ?_⟩) ?_ ?_
    rotate_left
    ·intro w'
     go_simp
     with_reducible rfl
    rotate_left
    ·simp only [Act.put, List.setIfInBounds_toArray, List.set_cons_zero, List.set_cons_succ, i64_w, i32_w]
     rfl
    refine take_ (i := 3) (N := some 14) (v := ?_) (a' := ?_) #[true, true, true, true, false, true, true, false, false, false, false, false] rfl rfl (take_ofW HT_.out HW_.out (by kernel_rfl)) (fun _ _ _ h => h) (Or.inl ⟨by rfl, ?_⟩) hHeld ?_ ?_
    rotate_left
    ·intro w' _
     go_simp
     with_reducible rfl
    rotate_left
    ·simp only [Act.put, List.setIfInBounds_toArray, List.set_cons_zero, List.set_cons_succ, i64_w, i32_w]
     rfl
    refine pure_ (i := 4) (N := some 15) (v := ?_) (a' := ?_) #[true, true, true, true, true, true, true, false, false, false, false, false] rfl rfl (any_of HT_.out (by kernel_rfl)) (fun _ _ _ h => h) (Or.inl ⟨by rfl, ?_⟩) ?_ ?_
    rotate_left
    ·intro w'
     go_simp
     with_reducible rfl
    rotate_left
    ·simp only [Act.put, List.setIfInBounds_toArray, List.set_cons_zero, List.set_cons_succ, i64_w, i32_w]
     rfl
    refine take_ (i := 7) (N := some 18) (v := ?_) (a' := ?_) #[true, true, true, true, true, true, true, true, false, false, false, false] rfl rfl (take_ofW HT_.out HW_.out (by kernel_rfl)) (fun _ _ _ h => h) (Or.inl ⟨by rfl, ?_⟩) hHeld ?_ ?_
    rotate_left
    ·intro w' _
     go_simp
     with_reducible rfl
    rotate_left
    ·simp only [Act.put, List.setIfInBounds_toArray, List.set_cons_zero, List.set_cons_succ, i64_w, i32_w]
     rfl
    refine pure_ (i := 8) (N := some 19) (v := ?_) (a' := ?_) #[true, true, true, true, true, true, true, true, true, false, false, false] rfl rfl (any_of HT_.out (by kernel_rfl)) (fun _ _ _ h => h) (Or.inl ⟨by rfl, ?_⟩) ?_ ?_
    rotate_left
    ·intro w'
     go_simp
     with_reducible rfl
    rotate_left
    ·simp only [Act.put, List.setIfInBounds_toArray, List.set_cons_zero, List.set_cons_succ, i64_w, i32_w]
     rfl
    refine one_ (i := 9) (N := some 20) #[true, true, true, true, true, true, true, true, true, true, false, false] rfl rfl (one_of HT_.out (by kernel_rfl)) (by decide) (fun K hK => ?_)
    refine Kd.R_lit_step (Kd.int .u8) _ 5 ?hg (N := 20) ?hd (xs := ([(Int.tdiv (bt a0 x4_1) 16) % 256, Int.tmod (bt a0 x4_1) 16] : List Int)) (inner := [.int .u8 ((Int.tdiv (bt a0 x4_1) 16) % 256), .int .u8 (Int.tmod (bt a0 x4_1) 16)]) (ok := fun _ => True) (okp := fun _ => True) ?hr ?hp (fun _ hk => hk) trivial (Below.refl _ _) (Nat.le_refl _) (by simp) ?_; (case hd => rfl); (case hg => rfl); (case hr => first | (go_simp; done) | (go_simp; rfl)); (case hp => exact (Reps.one (show Kd.M (Kd.int .u8) _ _ _ ((Int.tdiv (bt a0 x4_1) 16) % 256) [.int .u8 ((Int.tdiv (bt a0 x4_1) 16) % 256)] from rfl) (Reps.one (show Kd.M (Kd.int .u8) _ _ _ (Int.tmod (bt a0 x4_1) 16) [.int .u8 (Int.tmod (bt a0 x4_1) 16)] from rfl) (Reps.none _ _))))
    intro v260 w8 ho9 hb hg_ hnew_
    clear hg_ hnew_
    (first | rw [← Ny259.out] at ho9 | (simp only [Int.reduceToNat] at ho9; rw [← Ny259.out] at ho9))
    have HO261 := A0_.mk (Kd.R_lower (Kd.R_new' ho9 (Kd.R_lt (by (with_reducible repeat (first | apply Kd.R_alloc | apply Kd.R_drewN | apply Kd.R_drew)); exact HO_3.out))) (wZ SQ.bw))
    replace HO_3 := A0_.mk (Kd.R_elder' (by (with_reducible repeat (first | apply Kd.R_alloc | apply Kd.R_drewN | apply Kd.R_drew)); exact HO_3.out) (Kd.R_base ho9) hb)
    replace HB := A0_.mk (wT SQ.bw hb)
    clear hb ho9
    obtain ⟨Ao11, co11, eo11⟩ := Kd.R_slice HO261.out
    (first | subst eo11 | (injection eo11 with f1_ f2_ f3_; have f4_ := f1_.symm; have f5_ := f3_.symm; clear f1_ f2_ f3_; subst f4_; subst f5_))
    refine hK.out _ _ trivial (fun hHeld => ?_)
    clear hK K
    refine norm_ (a' := ?_) ?_ ?_
    rotate_left
    ·show Act.put _ (some 20) _ = _
     simp only [Act.put, List.setIfInBounds_toArray, List.set_cons_zero, List.set_cons_succ, i64_w, i32_w]
     rfl
    refine one_ (i := 10) (N := some 21) #[true, true, true, true, true, true, true, true, true, true, true, false] rfl rfl (one_of HT_.out (by kernel_rfl)) (by decide) (fun K hK => ?_)
    refine Kd.R_append_rows_step (Kd.int .u8) (w0 := w) w.heap.size (by rfl) (.tmp 11) (.tmp 20) 42 5 (.int .u8 0) 1 rfl Tryd.underlying42 info5 rfl (by decide) (by omega) u3 x3_1 y259 _ _ _ (fun k_ => some k_ ≠ (.slice Ao11 y259.length co11 : Value).ownBlock) (fun _ => False) rfl rfl ?aO ?aR (fun _ _ h => h) (fun _ h => h.elim) ?aF ?aB ?aS ?aL ?_
    (case aR => repeat (first | exact (Kd.R_reads' HO261.out).2.2 | (with_reducible refine Kd.C_alloc ?_ _) | (with_reducible refine Kd.C_drewN ?_ _) | (with_reducible refine Kd.C_drew ?_)))
    (case aB => exact SQ.bw)
    (case aF => exact (fun k_ hk => Kd.fresh' (Kd.R_lt (by (with_reducible repeat (first | apply Kd.R_alloc | apply Kd.R_drewN | apply Kd.R_drew)); exact HO261.out)) k_ hk))
    (case aO => exact (by (with_reducible repeat (first | apply Kd.R_alloc | apply Kd.R_drewN | apply Kd.R_drew)); exact Kd.R_mono HO_3.out (fun _ hk => hk.2)))
    (case aS => exact (wZ SQ.bw))
    (case aL => have := LMc6.out; omega)
    intro v263 w10 ho hb hg hat
    rw [← Ny262.out] at ho
    have HO264 := A0_.mk (ho)
    replace HO261 := A0_.mk (Kd.R_after (ok := (fun _ => True)) (by (with_reducible repeat (first | apply Kd.R_alloc | apply Kd.R_drewN | apply Kd.R_drew)); exact HO261.out) hg hat)
    replace HB := A0_.mk (hb)
    clear HO_3
    clear ho hb hg hat
    refine hK.out _ _ trivial (fun hHeld => ?_)
    clear hK K
    refine norm_ (a' := ?_) ?_ ?_
    rotate_left
    ·show Act.put _ (some 21) _ = _
     simp only [Act.put, List.setIfInBounds_toArray, List.set_cons_zero, List.set_cons_succ, i64_w, i32_w]
     rfl
    refine pure_ (i := 11) (N := some 3) (v := ?_) (a' := ?_) #[true, true, true, true, true, true, true, true, true, true, true, true] rfl rfl (any_of HT_.out (by kernel_rfl)) (fun _ _ _ h => h) (Or.inl ⟨by rfl, ?_⟩) ?_ ?_
    rotate_left
    ·intro w'
     go_simp
     with_reducible rfl
    rotate_left
    ·simp only [Act.put, List.setIfInBounds_toArray, List.set_cons_zero, List.set_cons_succ, i64_w, i32_w]
     rfl
    refine done_ (done_of HT_.out (by kernel_rfl)) ?_
    try go_wp2
    go_roundg k1
    case measure => have := HK1.out; omega
    case rel => exact ⟨(y262), (wrap64 (x4_1 + 1)), (by first | rfl | (simp; done) | (simp [*]; done)), H', ⟨by have := HK1.out; omega⟩, ⟨by (with_reducible repeat (first | apply Kd.R_alloc | apply Kd.R_drewN | apply Kd.R_drew)); exact Kd.R_mono HO264.out (fun _ hk => trivial)⟩, ⟨SQ.bw⟩⟩
   ·rw [if_neg c2] at H
    have c2b0 : decide (x4_1 < (a0.size : Int)) = false := decide_eq_false c2
    clear c2
    obtain rfl := Option.some.inj H
    have hcv12 := own_string (P := Tryd.prog) Tryd.underlying42 Tryd.underlying5 Tryd.underlying9 (Kd.own_of_R HO_3.out)
    go_wp2
    go_ret
    exact ⟨SQ.er, SQ.bw⟩

/-! ### r2Unpack: function 25 -/
def r2Unpack.j0 : Nat → ByteArray → Bool → Option (ByteArray × Int × Bool)
 | 0, _, _ => none
 | k + 1, x0, x14 => if x14 = true then (some ((⟨#[]⟩ : ByteArray), 0, false)) else (if 0 < (x0.size : Int) then (if (wrap64 (1 + (wrap64 (Int.tdiv (wrap64 ((wrap64 (bt x0 0)) + 1)) 2)))) > (x0.size : Int) then (some ((⟨#[]⟩ : ByteArray), 0, false)) else (if 1 ≤ (wrap64 (1 + (wrap64 (Int.tdiv (wrap64 ((wrap64 (bt x0 0)) + 1)) 2)))) then (if (wrap64 (1 + (wrap64 (Int.tdiv (wrap64 ((wrap64 (bt x0 0)) + 1)) 2)))) ≤ (x0.size : Int) then ((r2Of.f k (x0.extract 1 ((wrap64 (1 + (wrap64 (Int.tdiv (wrap64 ((wrap64 (bt x0 0)) + 1)) 2)))) : Int).toNat)).bind fun t266 => (if 0 ≤ (wrap64 (bt x0 0)) then (if (wrap64 (bt x0 0)) ≤ (t266.size : Int) then ((r2Pack.f k (t266.extract 0 ((wrap64 (bt x0 0)) : Int).toNat)).bind fun bt268 => (if 0 ≤ (wrap64 (1 + (wrap64 (Int.tdiv (wrap64 ((wrap64 (bt x0 0)) + 1)) 2)))) then (if bt268.1.toList = (x0.extract 0 ((wrap64 (1 + (wrap64 (Int.tdiv (wrap64 ((wrap64 (bt x0 0)) + 1)) 2)))) : Int).toNat).toList then (some (t266.extract 0 ((wrap64 (bt x0 0)) : Int).toNat, wrap64 (1 + (wrap64 (Int.tdiv (wrap64 ((wrap64 (bt x0 0)) + 1)) 2))), true)) else (some ((⟨#[]⟩ : ByteArray), 0, false))) else (none))) else (none)) else (none))) else (none)) else (none))) else (none))
def r2Unpack.f (k : Nat) (a0 : ByteArray) : Option (ByteArray × Int × Bool) := if (a0.size : Int) < 1 then (r2Unpack.j0 k a0 true) else (if 0 < (a0.size : Int) then (r2Unpack.j0 k a0 (decide ((bt a0 0) > 16))) else (none))
def r2Unpack.T9 : Bool × List (List Nat × List Nat) := (true, [([], []), ([0], [0]), ([1], [1]), ([2], [2]), ([], []), ([], []), ([4, 5], [4, 5]), ([3, 6], [3, 6])])
def r2Unpack.B9 : List Nat := [0, 1, 3, 7, 0, 0, 48, 127]
theorem r2Unpack.tab9 : rtab .any (opsOf Tryd.f25 9) = r2Unpack.T9 := by kernel_rfl
theorem r2Unpack.bits9 : waitsOk r2Unpack.T9.2 r2Unpack.B9 = true := by kernel_rfl
set_option maxHeartbeats 8000000 in
set_option maxRecDepth 100000 in
theorem r2Unpack.calls (k : Nat) (a0 : ByteArray) (r1 : ByteArray) (r2 : Int) (r3 : Bool) (w : World) (h : r2Unpack.f k a0 = some (r1, r2, r3)) :
  Calls Tryd.prog 25 #[.string a0] w fun e w' => e = .returned (.agg #[.string r1, .int .i64 r2, .bool r3]) ∧ Below w.heap.size w w' := by
 have hfd55_0 : ∀ (x0_ x1_ : Value) (W : World), (Instr.field 55 (.agg #[x0_, x1_]) 0).run Tryd.prog W = .ok (x0_) W := fun x0_ x1_ W => by kernel_rfl
 have hu48 := Tryd.underlying48
 have hu55 := Tryd.underlying55
 have HB := A0_.mk (Below.refl w.heap.size w)
 have H : (if (a0.size : Int) < 1 then (r2Unpack.j0 k a0 true) else (if 0 < (a0.size : Int) then (r2Unpack.j0 k a0 (decide ((bt a0 0) > 16))) else (none))) = some (r1, r2, r3) := h
 clear h
 have HC2 := A0_.mk H
 clear H
 go_enter Tryd.func25, Tryd.ntmps25
 go_upto_region 1 with (first | ((with_reducible refine gD (N := 2) rfl ?_); refine xE ?hg (N := 2) ?hd (cs := #[.string (⟨#[]⟩ : ByteArray), .int .i64 0, .bool false]) (t := 48) ?hr ?_; (case hd => rfl); (case hg => rfl); (case hr => first | (go_simp; done) | (go_simp; rfl)); intro gb265 hg w3 hbox hb; have BK265 := A0_.mk (hbox); have GW265 := A0_.mk ((by rw [hg]; exact (wZ SQ.bw) : w.heap.size ≤ gb265)); have GE265 := A0_.mk ((by rw [hg]; exact (wZ SQ.bw) : w.heap.size ≤ gb265)); replace HB := A0_.mk (wT SQ.bw hb); clear hb hbox hg))
 (try simp only [Act.put, List.setIfInBounds_toArray, List.set_cons_zero, List.set_cons_succ])
 go_cut [14] (fun v14 wc => ∃ (kq : Nat) (x14_1 : Bool), v14 = .bool x14_1 ∧ A0_ (r2Unpack.j0 kq a0 x14_1 = some (r1, r2, r3)) ∧ A0_ (kq ≤ k) ∧ A0_ (wc.heap[gb265]? = some (.cells #[.string (⟨#[]⟩ : ByteArray), .int .i64 0, .bool false] 48 (0, 0))) ∧ A0_ (Below w.heap.size w wc))
 case first =>
  have H := HC2.out
  clear HC2
  by_cases c4 : (a0.size : Int) < 1
  ·rw [if_pos c4] at H
   have c4b0 : decide ((a0.size : Int) < 1) = true := decide_eq_true c4
   have c4b1 : decide (a0.size < 1) = true := decide_eq_true (by omega)
   clear c4
   (first | rw [c4b0] | (simp only [i64_w, i32_w]; rw [c4b0]) | skip)
   have H' := A0_.mk H
   clear H
   go_wp2
   go_meet
   case rel => exact ⟨_, (true), (by first | rfl | (simp; done) | (simp [*]; done)), H', ⟨by first | omega | exact Nat.le_refl _⟩, ⟨SQ.kw⟩, ⟨SQ.bw⟩⟩
  ·rw [if_neg c4] at H
   have c4b0 : decide ((a0.size : Int) < 1) = false := decide_eq_false c4
   have c4b1 : decide (a0.size < 1) = false := decide_eq_false (by omega)
   clear c4
   (first | rw [c4b0] | (simp only [i64_w, i32_w]; rw [c4b0]) | skip)
   by_cases c5 : 0 < (a0.size : Int)
   rotate_left
   ·rw [if_neg c5] at H
    exact absurd H (by simp)
   rw [if_pos c5] at H
   have c5b0 : decide (0 < (a0.size : Int)) = true := decide_eq_true c5
   have c5b1 : decide (0 < a0.size) = true := decide_eq_true (by omega)
   clear c5
   have H' := A0_.mk H
   clear H
   have p6 : 0 ≤ (0 : Int) := (by omega)
   have q6 : 0 < a0.size := (by have : (0 : Int) < (a0.size : Int) := SQ.da; omega)
   have hx6 : ∀ h : 0 < a0.size, ((a0[0]'h).toNat : Int) = bt a0 0 := bt_at a0 0
   clear p6
   have qi6 : (0 < (a0.size : Int)) = True := eq_true (SQ.da)
   replace q6 := eq_true q6
   go_wp2
   go_meet
   case rel => exact ⟨_, (decide ((bt a0 0) > 16)), (by first | rfl | (simp; done) | (simp [*]; done)), H', ⟨by first | omega | exact Nat.le_refl _⟩, ⟨SQ.kw⟩, ⟨SQ.bw⟩⟩
 case rest =>
  clear HC2
  try clear c2
  try clear p2
  try clear c4
  try clear c4b0
  try clear c4b1
  try clear c5
  try clear c5b0
  try clear c5b1
  try clear p6
  try clear q6
  try clear hx6
  try clear qi6
  try clear p6
  try clear q6
  obtain ⟨kq, x14_1, rfl, HA, HJ1, BK265, HB⟩ := hcut
  cases kq with
  | zero => exact absurd HA.out (by simp [r2Unpack.j0])
  | succ kj1 =>
   have H := HA.out
   clear HA
   simp only [r2Unpack.j0] at H
   by_cases c7 : x14_1 = true
   ·subst c7
    rw [if_pos rfl] at H
    simp only [Option.some.injEq, Prod.mk.injEq] at H
    obtain ⟨rfl, rfl, rfl⟩ := H
    obtain ⟨hcz8_0, hcz8_1, hcz8_2, hfz8_0, hfz8_1, hfz8_2⟩ := SQ.cs3 BK265.out
    go_wp2
    refine bodyPost_ret (results_cell_row rfl _ _ gb265 48 #[.string (⟨#[]⟩ : ByteArray), .int .i64 0, .bool false] (0, 0) _ rfl (by (with_reducible repeat (first | refine bN ?_ _ | refine bD ?_ | refine bA ?_ _)); refine bP (cs := #[.string (⟨#[]⟩ : ByteArray), .int .i64 0, .bool false]) ?_ 2 _ rfl; (with_reducible repeat (first | refine bN ?_ _ | refine bD ?_ | refine bA ?_ _)); refine bP (cs := #[.string (⟨#[]⟩ : ByteArray), .int .i64 0, .bool false]) ?_ 1 _ rfl; (with_reducible repeat (first | refine bN ?_ _ | refine bD ?_ | refine bA ?_ _)); refine bP (cs := #[.string (⟨#[]⟩ : ByteArray), .int .i64 0, .bool false]) ?_ 0 _ rfl; (with_reducible repeat (first | refine bN ?_ _ | refine bD ?_ | refine bA ?_ _)); exact BK265.out) Tryd.underlying48 rfl (by kernel_rfl)) rfl ?_
    exact ⟨SQ.er, SQ.bw⟩
   ·replace c7 := Bool.eq_false_iff.mpr c7
    subst c7
    rw [if_neg (show ¬ (false = true) by decide)] at H
    by_cases c9 : 0 < (a0.size : Int)
    rotate_left
    ·rw [if_neg c9] at H
     exact absurd H (by simp)
    rw [if_pos c9] at H
    have c9b0 : decide (0 < (a0.size : Int)) = true := decide_eq_true c9
    have c9b1 : decide (0 < a0.size) = true := decide_eq_true (by omega)
    clear c9
    by_cases c11 : (wrap64 (1 + (wrap64 (Int.tdiv (wrap64 ((wrap64 (bt a0 0)) + 1)) 2)))) > (a0.size : Int)
    ·rw [if_pos c11] at H
     have c11b0 : decide ((a0.size : Int) < (wrap64 (1 + (wrap64 (Int.tdiv (wrap64 ((wrap64 (bt a0 0)) + 1)) 2))))) = true := decide_eq_true c11
     clear c11
     simp only [Option.some.injEq, Prod.mk.injEq] at H
     obtain ⟨rfl, rfl, rfl⟩ := H
     have p10 : 0 ≤ (0 : Int) := (by omega)
     have q10 : 0 < a0.size := (by have : (0 : Int) < (a0.size : Int) := SQ.da; omega)
     have hx10 : ∀ h : 0 < a0.size, ((a0[0]'h).toNat : Int) = bt a0 0 := bt_at a0 0
     clear p10
     have qi10 : (0 < (a0.size : Int)) = True := eq_true (SQ.da)
     replace q10 := eq_true q10
     obtain ⟨hcz12_0, hcz12_1, hcz12_2, hfz12_0, hfz12_1, hfz12_2⟩ := SQ.cs3 BK265.out
     go_wp2
     refine bodyPost_ret (results_cell_row rfl _ _ gb265 48 #[.string (⟨#[]⟩ : ByteArray), .int .i64 0, .bool false] (0, 0) _ rfl (by (with_reducible repeat (first | refine bN ?_ _ | refine bD ?_ | refine bA ?_ _)); refine bP (cs := #[.string (⟨#[]⟩ : ByteArray), .int .i64 0, .bool false]) ?_ 2 _ rfl; (with_reducible repeat (first | refine bN ?_ _ | refine bD ?_ | refine bA ?_ _)); refine bP (cs := #[.string (⟨#[]⟩ : ByteArray), .int .i64 0, .bool false]) ?_ 1 _ rfl; (with_reducible repeat (first | refine bN ?_ _ | refine bD ?_ | refine bA ?_ _)); refine bP (cs := #[.string (⟨#[]⟩ : ByteArray), .int .i64 0, .bool false]) ?_ 0 _ rfl; (with_reducible repeat (first | refine bN ?_ _ | refine bD ?_ | refine bA ?_ _)); exact BK265.out) Tryd.underlying48 rfl (by kernel_rfl)) rfl ?_
     exact ⟨SQ.er, SQ.bw⟩
    ·rw [if_neg c11] at H
     have c11b0 : decide ((a0.size : Int) < (wrap64 (1 + (wrap64 (Int.tdiv (wrap64 ((wrap64 (bt a0 0)) + 1)) 2))))) = false := decide_eq_false c11
     clear c11
     by_cases c13 : 1 ≤ (wrap64 (1 + (wrap64 (Int.tdiv (wrap64 ((wrap64 (bt a0 0)) + 1)) 2))))
     rotate_left
     ·rw [if_neg c13] at H
      exact absurd H (by simp)
     rw [if_pos c13] at H
     have c13b0 := eq_true c13
     have c13b1 : decide (1 ≤ (wrap64 (1 + (wrap64 (Int.tdiv (wrap64 ((wrap64 (bt a0 0)) + 1)) 2))))) = true := decide_eq_true c13
     by_cases c14 : (wrap64 (1 + (wrap64 (Int.tdiv (wrap64 ((wrap64 (bt a0 0)) + 1)) 2)))) ≤ (a0.size : Int)
     rotate_left
     ·rw [if_neg c14] at H
      exact absurd H (by simp)
     rw [if_pos c14] at H
     have c14b0 := eq_true c14
     have c14b1 : decide ((wrap64 (1 + (wrap64 (Int.tdiv (wrap64 ((wrap64 (bt a0 0)) + 1)) 2)))) ≤ (a0.size : Int)) = true := decide_eq_true c14
     replace H := Option.bind_eq_some_iff.mp H
     obtain ⟨t266, A150, H⟩ := H
     try dsimp only at H
     have A15 := A0_.mk A150
     clear A150
     obtain ⟨ji16, hji16⟩ : ∃ j_ : Int, (wrap64 (bt a0 0)) = j_ := ⟨_, rfl⟩
     replace H : (if 0 ≤ (ji16) then (if (ji16) ≤ (t266.size : Int) then ((r2Pack.f kj1 (t266.extract 0 ((ji16) : Int).toNat)).bind fun bt268 => (if 0 ≤ (wrap64 (1 + (wrap64 (Int.tdiv (wrap64 ((ji16) + 1)) 2)))) then (if bt268.1.toList = (a0.extract 0 ((wrap64 (1 + (wrap64 (Int.tdiv (wrap64 ((ji16) + 1)) 2)))) : Int).toNat).toList then (some (t266.extract 0 ((ji16) : Int).toNat, wrap64 (1 + (wrap64 (Int.tdiv (wrap64 ((ji16) + 1)) 2))), true)) else (some ((⟨#[]⟩ : ByteArray), 0, false))) else (none))) else (none)) else (none)) = some (r1, r2, r3) := by first | (rw [hji16] at H; exact H) | (simp only [hji16] at H ⊢; exact H)
     (try rw [hji16] at c11b0)
     (try rw [hji16] at c13b0)
     (try rw [hji16] at c13b1)
     (try rw [hji16] at c13)
     (try rw [hji16] at c14b0)
     (try rw [hji16] at c14b1)
     (try rw [hji16] at c14)
     (try rw [hji16] at A15)
     have hji16w : (IntKind.i64.wrap (bt a0 0)) = ji16 := (i64_w _).trans hji16
     by_cases c17 : 0 ≤ (ji16)
     rotate_left
     ·rw [if_neg c17] at H
      exact absurd H (by simp)
     rw [if_pos c17] at H
     have c17b0 := eq_true c17
     have c17b1 : decide (0 ≤ (ji16)) = true := decide_eq_true c17
     clear c17
     by_cases c18 : (ji16) ≤ (t266.size : Int)
     rotate_left
     ·rw [if_neg c18] at H
      exact absurd H (by simp)
     rw [if_pos c18] at H
     have c18b0 := eq_true c18
     have c18b1 : decide ((ji16) ≤ (t266.size : Int)) = true := decide_eq_true c18
     clear c18
     replace H := Option.bind_eq_some_iff.mp H
     obtain ⟨⟨t268, t269⟩, A190, H⟩ := H
     try dsimp only at H
     have A19 := A0_.mk A190
     clear A190
     obtain ⟨ji20, hji20⟩ : ∃ j_ : Int, (wrap64 (1 + (wrap64 (Int.tdiv (wrap64 ((ji16) + 1)) 2)))) = j_ := ⟨_, rfl⟩
     replace H : (if 0 ≤ (ji20) then (if t268.toList = (a0.extract 0 ((ji20) : Int).toNat).toList then (some (t266.extract 0 ((ji16) : Int).toNat, ji20, true)) else (some ((⟨#[]⟩ : ByteArray), 0, false))) else (none)) = some (r1, r2, r3) := by first | (rw [hji20] at H; exact H) | (simp only [hji20] at H ⊢; exact H)
     (try rw [hji20] at A15)
     (try rw [hji20] at A19)
     have hji20w : (IntKind.i64.wrap (1 + (wrap64 (Int.tdiv (wrap64 ((ji16) + 1)) 2)))) = ji20 := (i64_w _).trans hji20
     by_cases c21 : 0 ≤ (ji20)
     rotate_left
     ·rw [if_neg c21] at H
      exact absurd H (by simp)
     rw [if_pos c21] at H
     have c21b0 := eq_true c21
     have c21b1 : decide (0 ≤ (ji20)) = true := decide_eq_true c21
     clear c21
     have c22b0 := eq_true (of_decide_eq_true (by first | (with_reducible assumption) | assumption | (rw [← hji20]; assumption)) : (ji20) ≤ (a0.size : Int))
     by_cases c23 : t268.toList = (a0.extract 0 ((ji20) : Int).toNat).toList
     ·rw [if_pos c23] at H
      have c23b0 : (t268.toList == (a0.extract 0 ((ji20) : Int).toNat).toList) = true := beq_iff_eq.mpr c23
      have c23b1 : (t268.toList != (a0.extract 0 ((ji20) : Int).toNat).toList) = false := bne_eq_false_iff_eq.mpr c23
      clear c23
      simp only [Option.some.injEq, Prod.mk.injEq] at H
      obtain ⟨rfl, rfl, rfl⟩ := H
      have p10 : 0 ≤ (0 : Int) := (by omega)
      have q10 : 0 < a0.size := (by have : (0 : Int) < (a0.size : Int) := SQ.da; omega)
      have hx10 : ∀ h : 0 < a0.size, ((a0[0]'h).toNat : Int) = bt a0 0 := bt_at a0 0
      clear p10
      have qi10 : (0 < (a0.size : Int)) = True := eq_true (SQ.da)
      replace q10 := eq_true q10
      have c13z : (1 ≤ ji20) = True := by rw [← hji20]; exact c13b0
      try go_wp2_with (first | ((with_reducible refine gC (f := 43) rfl ?_); refine gL (some 31) rfl rfl Tryd.func43 (by kernel_rfl) rfl #[.string (a0.extract 1 ((ji20) : Int).toNat)] rfl (by (try simp only [List.map_toArray, List.map_cons, List.map_nil]); first | done | (simp only [hji20]; rfl) | rfl | (simp only [List.length_drop, List.length_take]; rfl)) ?_; (with_reducible refine (r2Of.calls kj1 (a0.extract 1 ((ji20) : Int).toNat) t266 _ A15.out).mono ?_); rintro e w24 ⟨rfl, hb⟩; refine ⟨_, rfl, ?_⟩; replace BK265 := A0_.mk (bB (g := gb265) SQ.kw hb); replace HB := A0_.mk (wT SQ.bw hb); clear hb) | ((with_reducible refine gD (N := 6) rfl ?_); refine xE ?hg (N := 6) ?hd (cs := #[.string (⟨#[]⟩ : ByteArray), .int .i64 0, .bool false]) (t := 48) ?hr ?_; (case hd => rfl); (case hg => rfl); (case hr => first | (go_simp; done) | (go_simp; rfl)); intro gb267 hg w25 hbox hb; have BK267 := A0_.mk (hbox); have GW267 := A0_.mk ((by rw [hg]; exact (wZ SQ.bw) : w.heap.size ≤ gb267)); have GE267 := A0_.mk ((by rw [hg]; exact (wZ SQ.bw) : w.heap.size ≤ gb267)); have NB265_267 := A0_.mk ((by rw [hg]; exact Nat.ne_of_lt (bL (g := gb265) SQ.kw) : gb265 ≠ gb267)); have NB267_265 := A0_.mk ((by rw [hg]; exact Nat.ne_of_gt (bL (g := gb265) SQ.kw) : gb267 ≠ gb265)); replace BK265 := A0_.mk (bB (g := gb265) SQ.kw hb); replace HB := A0_.mk (wT SQ.bw hb); clear hb hbox hg; have hnb26 := NB267_265.out; have hnc26 := NB265_267.out; obtain ⟨hcz27_0, hcz27_1, hcz27_2, hfz27_0, hfz27_1, hfz27_2⟩ := SQ.cs3 BK267.out))
      have n0_ : A0_ ((((w25.setCell ⟨gb267, 0, none⟩ (.string (t266.extract 0 ((ji16) : Int).toNat))).setCell ⟨gb267, 1, none⟩ (.int .i64 ji20)).setCell ⟨gb267, 2, none⟩ (.bool true)).heap[gb265]? = some (.cells #[.string (⟨#[]⟩ : ByteArray), .int .i64 0, .bool false] 48 (0, 0))) := ⟨by (with_reducible repeat (first | refine bN ?_ _ | refine bD ?_ | refine bA ?_ _)); refine bR ?_ NB265_267.out _; (with_reducible repeat (first | refine bN ?_ _ | refine bD ?_ | refine bA ?_ _)); refine bR ?_ NB265_267.out _; (with_reducible repeat (first | refine bN ?_ _ | refine bD ?_ | refine bA ?_ _)); refine bR ?_ NB265_267.out _; (with_reducible repeat (first | refine bN ?_ _ | refine bD ?_ | refine bA ?_ _)); exact BK265.out⟩
      have n1_ : A0_ ((((w25.setCell ⟨gb267, 0, none⟩ (.string (t266.extract 0 ((ji16) : Int).toNat))).setCell ⟨gb267, 1, none⟩ (.int .i64 ji20)).setCell ⟨gb267, 2, none⟩ (.bool true)).heap[gb267]? = some (.cells #[.string (t266.extract 0 ((ji16) : Int).toNat), .int .i64 ji20, .bool true] 48 (0, 0))) := ⟨by (with_reducible repeat (first | refine bN ?_ _ | refine bD ?_ | refine bA ?_ _)); refine bP (cs := #[.string (t266.extract 0 ((ji16) : Int).toNat), .int .i64 ji20, .bool false]) ?_ 2 _ rfl; (with_reducible repeat (first | refine bN ?_ _ | refine bD ?_ | refine bA ?_ _)); refine bP (cs := #[.string (t266.extract 0 ((ji16) : Int).toNat), .int .i64 0, .bool false]) ?_ 1 _ rfl; (with_reducible repeat (first | refine bN ?_ _ | refine bD ?_ | refine bA ?_ _)); refine bP (cs := #[.string (⟨#[]⟩ : ByteArray), .int .i64 0, .bool false]) ?_ 0 _ rfl; (with_reducible repeat (first | refine bN ?_ _ | refine bD ?_ | refine bA ?_ _)); exact BK267.out⟩
      have n2_ : A0_ (Below w.heap.size w (((w25.setCell ⟨gb267, 0, none⟩ (.string (t266.extract 0 ((ji16) : Int).toNat))).setCell ⟨gb267, 1, none⟩ (.int .i64 ji20)).setCell ⟨gb267, 2, none⟩ (.bool true))) := ⟨SQ.bw⟩
      (try clear BK265)
      (try clear BK267)
      (try clear HB)
      generalize (((w25.setCell ⟨gb267, 0, none⟩ (.string (t266.extract 0 ((ji16) : Int).toNat))).setCell ⟨gb267, 1, none⟩ (.int .i64 ji20)).setCell ⟨gb267, 2, none⟩ (.bool true)) = w28 at n0_ n1_ n2_ ⊢
      have BK265 := n0_
      have BK267 := n1_
      have HB := n2_
      clear n0_ n1_ n2_
      replace BK265 := A0_.mk (bD BK265.out)
      replace BK267 := A0_.mk (bD BK267.out)
      replace HB := A0_.mk (wD HB.out)
      refine start_ (n := 8) (S := fun w' => w'.cell? ⟨gb267, 0, none⟩ = some (.string (t266.extract 0 ((ji16) : Int).toNat)) ∧ w'.cell? ⟨gb267, 1, none⟩ = some (.int .i64 ji20) ∧ w'.cell? ⟨gb267, 2, none⟩ = some (.bool true)) (ds := []) #[false, false, false, false, false, false, false, false] (by kernel_rfl) rfl rfl ⟨(bC BK267.out 0).trans rfl, (bC BK267.out 1).trans rfl, (bC BK267.out 2).trans rfl⟩ (fun hHeld => ?_); refine with_tabW r2Unpack.tab9 r2Unpack.bits9 (fun HT_ HW_ => ?_)
      generalize w28.drew = w29 at BK265 BK267 HB hHeld ⊢
      refine pure_ (i := 0) (N := some 37) (v := ?_) (a' := ?_) #[true, false, false, false, false, false, false, false] rfl rfl (any_of HT_.out (by kernel_rfl)) (fun _ _ _ h => h) (Or.inl ⟨by rfl, ?_⟩) ?_ ?_
      rotate_left
      ·intro w'
       go_simp
       with_reducible rfl
      rotate_left
      ·simp only [Act.put, List.setIfInBounds_toArray, List.set_cons_zero, List.set_cons_succ, i64_w, i32_w]
       rfl
      refine pure_ (i := 4) (N := some 41) (v := ?_) (a' := ?_) #[true, false, false, false, true, false, false, false] rfl rfl (any_of HT_.out (by kernel_rfl)) (fun _ _ _ h => h) (Or.inl ⟨by rfl, ?_⟩) ?_ ?_
      rotate_left
      ·intro w'
       go_simp
       with_reducible rfl
      rotate_left
      ·simp only [Act.put, List.setIfInBounds_toArray, List.set_cons_zero, List.set_cons_succ, i64_w, i32_w]
       rfl
      refine pure_ (i := 5) (N := some 42) (v := ?_) (a' := ?_) #[true, false, false, false, true, true, false, false] rfl rfl (any_of HT_.out (by kernel_rfl)) (fun _ _ _ h => h) (Or.inl ⟨by rfl, ?_⟩) ?_ ?_
      rotate_left
      ·intro w'
       go_simp
       with_reducible rfl
      rotate_left
      ·simp only [Act.put, List.setIfInBounds_toArray, List.set_cons_zero, List.set_cons_succ, i64_w, i32_w]
       rfl
      refine pure_ (i := 6) (N := some 43) (v := ?_) (a' := ?_) #[true, false, false, false, true, true, true, false] rfl rfl (any_of HT_.out (by kernel_rfl)) (fun _ _ _ h => h) (Or.inl ⟨by rfl, ?_⟩) ?_ ?_
      rotate_left
      ·intro w'
       go_simp
       with_reducible rfl
      rotate_left
      ·simp only [Act.put, List.setIfInBounds_toArray, List.set_cons_zero, List.set_cons_succ, i64_w, i32_w]
       rfl
      refine take_ (i := 1) (N := some 38) (v := ?_) (a' := ?_) #[true, true, false, false, true, true, true, false] rfl rfl (take_ofW HT_.out HW_.out (by kernel_rfl)) (fun _ _ _ h => h) (Or.inl ⟨by rfl, ?_⟩) hHeld ?_ ?_
      rotate_left
      ·rintro w' ⟨s0, s1, s2⟩
       go_simp
       with_reducible rfl
      rotate_left
      ·simp only [Act.put, List.setIfInBounds_toArray, List.set_cons_zero, List.set_cons_succ, i64_w, i32_w]
       rfl
      refine one_ (i := 2) (N := some 39) #[true, true, true, false, true, true, true, false] rfl rfl (one_of HT_.out (by kernel_rfl)) (by decide) (fun K hK => ?_)
      refine goes_ Tryd.func30 (by kernel_rfl) rfl #[.string (t266.extract 0 ((ji16) : Int).toNat)] (by rfl) rfl rfl (by (try simp only [List.map_toArray, List.map_cons, List.map_nil]); first | done | (simp only [hji16]; rfl) | rfl | (simp only [List.length_drop, List.length_take]; rfl)) ?_
      with_reducible refine (r2Pack.calls kj1 (t266.extract 0 ((ji16) : Int).toNat) t268 t269 _ A19.out).mono ?_
      rintro e w30 ⟨rfl, hb⟩
      refine ⟨_, rfl, ?_⟩
      replace BK265 := A0_.mk (bB (g := gb265) SQ.kw hb)
      replace BK267 := A0_.mk (bB (g := gb267) SQ.kw hb)
      replace HB := A0_.mk (wT SQ.bw hb)
      (try clear hb)
      (try clear hb2)
      (try clear hk)
      (try clear hi)
      refine hK.out _ _ ⟨(bC BK267.out 0).trans rfl, (bC BK267.out 1).trans rfl, (bC BK267.out 2).trans rfl⟩ (fun hHeld => ?_)
      clear hK K
      refine norm_ (a' := ?_) ?_ ?_
      rotate_left
      ·show Act.put _ (some 39) _ = _
       simp only [Act.put, List.setIfInBounds_toArray, List.set_cons_zero, List.set_cons_succ, i64_w, i32_w]
       rfl
      refine pure_ (i := 3) (N := some 40) (v := ?_) (a' := ?_) #[true, true, true, true, true, true, true, false] rfl rfl (any_of HT_.out (by kernel_rfl)) (fun _ _ _ h => h) (Or.inl ⟨by rfl, ?_⟩) ?_ ?_
      rotate_left
      ·intro w'
       go_simp
       with_reducible rfl
      rotate_left
      ·simp only [Act.put, List.setIfInBounds_toArray, List.set_cons_zero, List.set_cons_succ, i64_w, i32_w]
       rfl
      refine pure_ (i := 7) (N := some 44) (v := ?_) (a' := ?_) #[true, true, true, true, true, true, true, true] rfl rfl (any_of HT_.out (by kernel_rfl)) (fun _ _ _ h => h) (Or.inl ⟨by rfl, ?_⟩) ?_ ?_
      rotate_left
      ·intro w'
       go_simp
       with_reducible rfl
      rotate_left
      ·simp only [Act.put, List.setIfInBounds_toArray, List.set_cons_zero, List.set_cons_succ, i64_w, i32_w]
       rfl
      refine done_ (done_of HT_.out (by kernel_rfl)) ?_
      obtain ⟨hcz31_0, hcz31_1, hcz31_2, hfz31_0, hfz31_1, hfz31_2⟩ := SQ.cs3 BK267.out
      obtain ⟨hcz32_0, hcz32_1, hcz32_2, hfz32_0, hfz32_1, hfz32_2⟩ := SQ.cs3 BK265.out
      try go_wp2
      refine bodyPost_ret (results_cell_row rfl _ _ gb265 48 #[.string (t266.extract 0 ((ji16) : Int).toNat), .int .i64 ji20, .bool true] (0, 0) _ rfl (by (with_reducible repeat (first | refine bN ?_ _ | refine bD ?_ | refine bA ?_ _)); refine bP (cs := #[.string (t266.extract 0 ((ji16) : Int).toNat), .int .i64 ji20, .bool false]) ?_ 2 _ rfl; (with_reducible repeat (first | refine bN ?_ _ | refine bD ?_ | refine bA ?_ _)); refine bP (cs := #[.string (t266.extract 0 ((ji16) : Int).toNat), .int .i64 0, .bool false]) ?_ 1 _ rfl; (with_reducible repeat (first | refine bN ?_ _ | refine bD ?_ | refine bA ?_ _)); refine bP (cs := #[.string (⟨#[]⟩ : ByteArray), .int .i64 0, .bool false]) ?_ 0 _ rfl; (with_reducible repeat (first | refine bN ?_ _ | refine bD ?_ | refine bA ?_ _)); exact BK265.out) Tryd.underlying48 rfl (by kernel_rfl)) rfl ?_
      exact ⟨by first | rfl | (simp [errW_none, errW_some] <;> rfl) | (simp only [← hji16, ← hji20]; first | rfl | (simp [errW_none, errW_some] <;> rfl)) | (simp [*, errW_none, errW_some] <;> rfl), SQ.bw⟩
     ·rw [if_neg c23] at H
      have c23b0 : (t268.toList == (a0.extract 0 ((ji20) : Int).toNat).toList) = false := beq_eq_false_iff_ne.mpr c23
      have c23b1 : (t268.toList != (a0.extract 0 ((ji20) : Int).toNat).toList) = true := bne_iff_ne.mpr c23
      simp only [Option.some.injEq, Prod.mk.injEq] at H
      obtain ⟨rfl, rfl, rfl⟩ := H
      have p10 : 0 ≤ (0 : Int) := (by omega)
      have q10 : 0 < a0.size := (by have : (0 : Int) < (a0.size : Int) := SQ.da; omega)
      have hx10 : ∀ h : 0 < a0.size, ((a0[0]'h).toNat : Int) = bt a0 0 := bt_at a0 0
      clear p10
      have qi10 : (0 < (a0.size : Int)) = True := eq_true (SQ.da)
      replace q10 := eq_true q10
      have c13z : (1 ≤ ji20) = True := by rw [← hji20]; exact c13b0
      try go_wp2_with (first | ((with_reducible refine gC (f := 43) rfl ?_); refine gL (some 31) rfl rfl Tryd.func43 (by kernel_rfl) rfl #[.string (a0.extract 1 ((ji20) : Int).toNat)] rfl (by (try simp only [List.map_toArray, List.map_cons, List.map_nil]); first | done | (simp only [hji20]; rfl) | rfl | (simp only [List.length_drop, List.length_take]; rfl)) ?_; (with_reducible refine (r2Of.calls kj1 (a0.extract 1 ((ji20) : Int).toNat) t266 _ A15.out).mono ?_); rintro e w33 ⟨rfl, hb⟩; refine ⟨_, rfl, ?_⟩; replace BK265 := A0_.mk (bB (g := gb265) SQ.kw hb); replace HB := A0_.mk (wT SQ.bw hb); clear hb) | ((with_reducible refine gD (N := 6) rfl ?_); refine xE ?hg (N := 6) ?hd (cs := #[.string (⟨#[]⟩ : ByteArray), .int .i64 0, .bool false]) (t := 48) ?hr ?_; (case hd => rfl); (case hg => rfl); (case hr => first | (go_simp; done) | (go_simp; rfl)); intro gb267 hg w34 hbox hb; have BK267 := A0_.mk (hbox); have GW267 := A0_.mk ((by rw [hg]; exact (wZ SQ.bw) : w.heap.size ≤ gb267)); have GE267 := A0_.mk ((by rw [hg]; exact (wZ SQ.bw) : w.heap.size ≤ gb267)); have NB265_267 := A0_.mk ((by rw [hg]; exact Nat.ne_of_lt (bL (g := gb265) SQ.kw) : gb265 ≠ gb267)); have NB267_265 := A0_.mk ((by rw [hg]; exact Nat.ne_of_gt (bL (g := gb265) SQ.kw) : gb267 ≠ gb265)); replace BK265 := A0_.mk (bB (g := gb265) SQ.kw hb); replace HB := A0_.mk (wT SQ.bw hb); clear hb hbox hg; have hnb35 := NB267_265.out; have hnc35 := NB265_267.out; obtain ⟨hcz36_0, hcz36_1, hcz36_2, hfz36_0, hfz36_1, hfz36_2⟩ := SQ.cs3 BK267.out))
      have n0_ : A0_ ((((w34.setCell ⟨gb267, 0, none⟩ (.string (t266.extract 0 ((ji16) : Int).toNat))).setCell ⟨gb267, 1, none⟩ (.int .i64 ji20)).setCell ⟨gb267, 2, none⟩ (.bool true)).heap[gb265]? = some (.cells #[.string (⟨#[]⟩ : ByteArray), .int .i64 0, .bool false] 48 (0, 0))) := ⟨by (with_reducible repeat (first | refine bN ?_ _ | refine bD ?_ | refine bA ?_ _)); refine bR ?_ NB265_267.out _; (with_reducible repeat (first | refine bN ?_ _ | refine bD ?_ | refine bA ?_ _)); refine bR ?_ NB265_267.out _; (with_reducible repeat (first | refine bN ?_ _ | refine bD ?_ | refine bA ?_ _)); refine bR ?_ NB265_267.out _; (with_reducible repeat (first | refine bN ?_ _ | refine bD ?_ | refine bA ?_ _)); exact BK265.out⟩
      have n1_ : A0_ ((((w34.setCell ⟨gb267, 0, none⟩ (.string (t266.extract 0 ((ji16) : Int).toNat))).setCell ⟨gb267, 1, none⟩ (.int .i64 ji20)).setCell ⟨gb267, 2, none⟩ (.bool true)).heap[gb267]? = some (.cells #[.string (t266.extract 0 ((ji16) : Int).toNat), .int .i64 ji20, .bool true] 48 (0, 0))) := ⟨by (with_reducible repeat (first | refine bN ?_ _ | refine bD ?_ | refine bA ?_ _)); refine bP (cs := #[.string (t266.extract 0 ((ji16) : Int).toNat), .int .i64 ji20, .bool false]) ?_ 2 _ rfl; (with_reducible repeat (first | refine bN ?_ _ | refine bD ?_ | refine bA ?_ _)); refine bP (cs := #[.string (t266.extract 0 ((ji16) : Int).toNat), .int .i64 0, .bool false]) ?_ 1 _ rfl; (with_reducible repeat (first | refine bN ?_ _ | refine bD ?_ | refine bA ?_ _)); refine bP (cs := #[.string (⟨#[]⟩ : ByteArray), .int .i64 0, .bool false]) ?_ 0 _ rfl; (with_reducible repeat (first | refine bN ?_ _ | refine bD ?_ | refine bA ?_ _)); exact BK267.out⟩
      have n2_ : A0_ (Below w.heap.size w (((w34.setCell ⟨gb267, 0, none⟩ (.string (t266.extract 0 ((ji16) : Int).toNat))).setCell ⟨gb267, 1, none⟩ (.int .i64 ji20)).setCell ⟨gb267, 2, none⟩ (.bool true))) := ⟨SQ.bw⟩
      (try clear BK265)
      (try clear BK267)
      (try clear HB)
      generalize (((w34.setCell ⟨gb267, 0, none⟩ (.string (t266.extract 0 ((ji16) : Int).toNat))).setCell ⟨gb267, 1, none⟩ (.int .i64 ji20)).setCell ⟨gb267, 2, none⟩ (.bool true)) = w37 at n0_ n1_ n2_ ⊢
      have BK265 := n0_
      have BK267 := n1_
      have HB := n2_
      clear n0_ n1_ n2_
      replace BK265 := A0_.mk (bD BK265.out)
      replace BK267 := A0_.mk (bD BK267.out)
      replace HB := A0_.mk (wD HB.out)
      refine start_ (n := 8) (S := fun w' => w'.cell? ⟨gb267, 0, none⟩ = some (.string (t266.extract 0 ((ji16) : Int).toNat)) ∧ w'.cell? ⟨gb267, 1, none⟩ = some (.int .i64 ji20) ∧ w'.cell? ⟨gb267, 2, none⟩ = some (.bool true)) (ds := []) #[false, false, false, false, false, false, false, false] (by kernel_rfl) rfl rfl ⟨(bC BK267.out 0).trans rfl, (bC BK267.out 1).trans rfl, (bC BK267.out 2).trans rfl⟩ (fun hHeld => ?_); refine with_tabW r2Unpack.tab9 r2Unpack.bits9 (fun HT_ HW_ => ?_)
      generalize w37.drew = w38 at BK265 BK267 HB hHeld ⊢
      refine pure_ (i := 0) (N := some 37) (v := ?_) (a' := ?_) #[true, false, false, false, false, false, false, false] rfl rfl (any_of HT_.out (by kernel_rfl)) (fun _ _ _ h => h) (Or.inl ⟨by rfl, ?_⟩) ?_ ?_
      rotate_left
      ·intro w'
       go_simp
       with_reducible rfl
      rotate_left
      ·simp only [Act.put, List.setIfInBounds_toArray, List.set_cons_zero, List.set_cons_succ, i64_w, i32_w]
       rfl
      refine pure_ (i := 4) (N := some 41) (v := ?_) (a' := ?_) #[true, false, false, false, true, false, false, false] rfl rfl (any_of HT_.out (by kernel_rfl)) (fun _ _ _ h => h) (Or.inl ⟨by rfl, ?_⟩) ?_ ?_
      rotate_left
      ·intro w'
       go_simp
       with_reducible rfl
      rotate_left
      ·simp only [Act.put, List.setIfInBounds_toArray, List.set_cons_zero, List.set_cons_succ, i64_w, i32_w]
       rfl
      refine pure_ (i := 5) (N := some 42) (v := ?_) (a' := ?_) #[true, false, false, false, true, true, false, false] rfl rfl (any_of HT_.out (by kernel_rfl)) (fun _ _ _ h => h) (Or.inl ⟨by rfl, ?_⟩) ?_ ?_
      rotate_left
      ·intro w'
       go_simp
       with_reducible rfl
      rotate_left
      ·simp only [Act.put, List.setIfInBounds_toArray, List.set_cons_zero, List.set_cons_succ, i64_w, i32_w]
       rfl
      refine pure_ (i := 6) (N := some 43) (v := ?_) (a' := ?_) #[true, false, false, false, true, true, true, false] rfl rfl (any_of HT_.out (by kernel_rfl)) (fun _ _ _ h => h) (Or.inl ⟨by rfl, ?_⟩) ?_ ?_
      rotate_left
      ·intro w'
       go_simp
       with_reducible rfl
      rotate_left
      ·simp only [Act.put, List.setIfInBounds_toArray, List.set_cons_zero, List.set_cons_succ, i64_w, i32_w]
       rfl
      refine take_ (i := 1) (N := some 38) (v := ?_) (a' := ?_) #[true, true, false, false, true, true, true, false] rfl rfl (take_ofW HT_.out HW_.out (by kernel_rfl)) (fun _ _ _ h => h) (Or.inl ⟨by rfl, ?_⟩) hHeld ?_ ?_
      rotate_left
      ·rintro w' ⟨s0, s1, s2⟩
       go_simp
       with_reducible rfl
      rotate_left
      ·simp only [Act.put, List.setIfInBounds_toArray, List.set_cons_zero, List.set_cons_succ, i64_w, i32_w]
       rfl
      refine one_ (i := 2) (N := some 39) #[true, true, true, false, true, true, true, false] rfl rfl (one_of HT_.out (by kernel_rfl)) (by decide) (fun K hK => ?_)
      refine goes_ Tryd.func30 (by kernel_rfl) rfl #[.string (t266.extract 0 ((ji16) : Int).toNat)] (by rfl) rfl rfl (by (try simp only [List.map_toArray, List.map_cons, List.map_nil]); first | done | (simp only [hji16]; rfl) | rfl | (simp only [List.length_drop, List.length_take]; rfl)) ?_
      with_reducible refine (r2Pack.calls kj1 (t266.extract 0 ((ji16) : Int).toNat) t268 t269 _ A19.out).mono ?_
      rintro e w39 ⟨rfl, hb⟩
      refine ⟨_, rfl, ?_⟩
      replace BK265 := A0_.mk (bB (g := gb265) SQ.kw hb)
      replace BK267 := A0_.mk (bB (g := gb267) SQ.kw hb)
      replace HB := A0_.mk (wT SQ.bw hb)
      (try clear hb)
      (try clear hb2)
      (try clear hk)
      (try clear hi)
      refine hK.out _ _ ⟨(bC BK267.out 0).trans rfl, (bC BK267.out 1).trans rfl, (bC BK267.out 2).trans rfl⟩ (fun hHeld => ?_)
      clear hK K
      refine norm_ (a' := ?_) ?_ ?_
      rotate_left
      ·show Act.put _ (some 39) _ = _
       simp only [Act.put, List.setIfInBounds_toArray, List.set_cons_zero, List.set_cons_succ, i64_w, i32_w]
       rfl
      refine pure_ (i := 3) (N := some 40) (v := ?_) (a' := ?_) #[true, true, true, true, true, true, true, false] rfl rfl (any_of HT_.out (by kernel_rfl)) (fun _ _ _ h => h) (Or.inl ⟨by rfl, ?_⟩) ?_ ?_
      rotate_left
      ·intro w'
       go_simp
       with_reducible rfl
      rotate_left
      ·simp only [Act.put, List.setIfInBounds_toArray, List.set_cons_zero, List.set_cons_succ, i64_w, i32_w]
       rfl
      refine pure_ (i := 7) (N := some 44) (v := ?_) (a' := ?_) #[true, true, true, true, true, true, true, true] rfl rfl (any_of HT_.out (by kernel_rfl)) (fun _ _ _ h => h) (Or.inl ⟨by rfl, ?_⟩) ?_ ?_
      rotate_left
      ·intro w'
       go_simp
       with_reducible rfl
      rotate_left
      ·simp only [Act.put, List.setIfInBounds_toArray, List.set_cons_zero, List.set_cons_succ, i64_w, i32_w]
       rfl
      refine done_ (done_of HT_.out (by kernel_rfl)) ?_
      obtain ⟨hcz40_0, hcz40_1, hcz40_2, hfz40_0, hfz40_1, hfz40_2⟩ := SQ.cs3 BK265.out
      try go_wp2
      refine bodyPost_ret (results_cell_row rfl _ _ gb265 48 #[.string (⟨#[]⟩ : ByteArray), .int .i64 0, .bool false] (0, 0) _ rfl (by (with_reducible repeat (first | refine bN ?_ _ | refine bD ?_ | refine bA ?_ _)); refine bP (cs := #[.string (⟨#[]⟩ : ByteArray), .int .i64 0, .bool false]) ?_ 2 _ rfl; (with_reducible repeat (first | refine bN ?_ _ | refine bD ?_ | refine bA ?_ _)); refine bP (cs := #[.string (⟨#[]⟩ : ByteArray), .int .i64 0, .bool false]) ?_ 1 _ rfl; (with_reducible repeat (first | refine bN ?_ _ | refine bD ?_ | refine bA ?_ _)); refine bP (cs := #[.string (⟨#[]⟩ : ByteArray), .int .i64 0, .bool false]) ?_ 0 _ rfl; (with_reducible repeat (first | refine bN ?_ _ | refine bD ?_ | refine bA ?_ _)); exact BK265.out) Tryd.underlying48 rfl (by kernel_rfl)) rfl ?_
      exact ⟨by first | rfl | (simp [errW_none, errW_some] <;> rfl) | (simp only [← hji16, ← hji20]; first | rfl | (simp [errW_none, errW_some] <;> rfl)) | (simp [*, errW_none, errW_some] <;> rfl), SQ.bw⟩

end Go.Proofs.YtklakmooaffjpaaDoor.PNod
