-- Written by a program of this session for this seat. Not trusted: Lean checks it.
import Derived.Test.YtbgojedhciimaaaPNibx0
import Derived.Test.YtbgojedhciimaaaPNibx3
namespace Go.Proofs.Ytbgojedhciimaaa.PNib
open Go.RowKit Go.Proofs.YtbgojedhciimaaaW.PrintWords Go.Proofs.YtbgojedhciimaaaW.PrintLast Go.Proofs.YtbgojedhciimaaaW.PrintMore
attribute [local go_sem] max2_int min2_int max_two min_two max_three min_three max_four min_four   -- for this text's walks alone
set_option linter.unusedVariables false
set_option linter.unusedSimpArgs false
open Go.Proofs.Ytbgojedhciimaaa.HW

/-! ### umbelref02_Of: function 19 -/
def umbelref02_Of.l0 : Nat → ByteArray → List Int → Int → Option (ByteArray)
  | 0, _, _, _ => none
  | k + 1, x0, x3, x4 => if x4 < (x0.size : Int) then (if 0 ≤ x4 then ((some (([(Int.tdiv (bt x0 x4) 16) % 256, Int.tmod (bt x0 x4) 16] : List Int) : List Int)).bind fun y155 => (if x3.length + y155.length < 140737488355328 then (umbelref02_Of.l0 k x0 (x3 ++ y155) (wrap64 (x4 + 1))) else (none))) else (none)) else (some (strOfNums x3))
def umbelref02_Of.f (k : Nat) (a0 : ByteArray) : Option (ByteArray) := umbelref02_Of.l0 k a0 ([] : List Int) 0
theorem umbelref02_Of.mono_l : ∀ k, (∀ y0 y1 y2, LeO (umbelref02_Of.l0 k y0 y1 y2) (umbelref02_Of.l0 (k + 1) y0 y1 y2))
  | 0 => fun _ _ _ r h => by simp [umbelref02_Of.l0] at h
  | k + 1 => by
    have ih0 := umbelref02_Of.mono_l k
    · intro y0 y1 y2
      unfold umbelref02_Of.l0
      repeat' first
      | (with_reducible exact ih0 _ _ _)
      | (with_reducible exact LeO.refl _)
      | (with_reducible exact LeO.none _)
      | (with_reducible refine LeO.ite ?_ ?_)
      | (with_reducible refine LeO.bind ?_ (fun _ => ?_))
      | exact ih0 _ _ _
      | exact LeO.none _
      | refine LeO.ite ?_ ?_
      | refine LeO.bind ?_ (fun _ => ?_)
theorem umbelref02_Of.mono : ∀ a0 k, LeO (umbelref02_Of.f k a0) (umbelref02_Of.f (k + 1) a0) := by
  intro a0 k
  have ih0 := umbelref02_Of.mono_l k
  unfold umbelref02_Of.f
  repeat' first
      | (with_reducible exact ih0 _ _ _)
      | (with_reducible exact LeO.refl _)
      | (with_reducible exact LeO.none _)
      | (with_reducible refine LeO.ite ?_ ?_)
      | (with_reducible refine LeO.bind ?_ (fun _ => ?_))
      | exact ih0 _ _ _
      | exact LeO.none _
      | refine LeO.ite ?_ ?_
      | refine LeO.bind ?_ (fun _ => ?_)
def umbelref02_Of.T5 : Bool × List (List Nat × List Nat) := (true, [([], []), ([], []), ([], []), ([1, 2], [1, 2]), ([3], [3]), ([], []), ([], []), ([5, 6], [5, 6]), ([7], [7]), ([4, 8], [4, 8]), ([0, 9], [0, 9]), ([10, 10, 0, 1, 2, 3, 4, 5, 6, 7, 8, 9, 10], [0, 10])])
def umbelref02_Of.B5 : List Nat := [0, 0, 0, 6, 14, 0, 0, 96, 224, 510, 1023, 2047]
theorem umbelref02_Of.tab5 : rtab .any (opsOf Try.f19 5) = umbelref02_Of.T5 := by kernel_rfl
theorem umbelref02_Of.bits5 : waitsOk umbelref02_Of.T5.2 umbelref02_Of.B5 = true := by kernel_rfl
set_option maxHeartbeats 8000000 in
set_option maxRecDepth 100000 in
theorem umbelref02_Of.calls (k : Nat) (a0 : ByteArray) (r : ByteArray) (w : World) (h : umbelref02_Of.f k a0 = some r) :
    Calls Try.prog 19 #[.string a0] w fun e w' => e = .returned (.string r) ∧ Below w.heap.size w w' := by
  have HB := Aside0.mk (Below.refl w.heap.size w)
  have H : (umbelref02_Of.l0 k a0 ([] : List Int) 0) = some r := h
  clear h
  have H' := Aside0.mk H
  clear H
  go_enter Try.func19, Try.ntmps19
  go_wp2
  go_loopg [3, 4] k (fun kq v3 v4 w' => ∃ (x3_1 : List Int) (x4_1 : Int), v4 = .int .i64 x4_1 ∧ Aside0 (umbelref02_Of.l0 kq a0 x3_1 x4_1 = some r) ∧ Aside0 (kq ≤ k) ∧ Aside0 (Kd.R (Kd.int .u8) 5 w' w.heap.size (fun _ => True) v3 x3_1) ∧ Aside0 (Below w.heap.size w w'))
  case atStart => exact ⟨(([] : List Int)), (0), (by first | rfl | (simp; done) | (simp [*]; done)), H', ⟨Nat.le_refl _⟩, ⟨by first | exact Kd.R_nil _ _ _ _ _ | exact Kd.N_nil _ _ _ _ _ | exact Kd.V_nil _ _ _ _ _ | exact Kd.Q_nil _ _ _ _ _ | exact Kd.S_nil _ _ _ _ _⟩, ⟨by repeat (first | (with_reducible first | exact HB.out | apply below_alloc | apply pw_below_drewN | apply below_drew1) | exact HB.out)⟩⟩
  case round =>
    clear H'
    try clear c1
    obtain ⟨x3_1, x4_1, rfl, HA, HK1, HO_3, HB⟩ := hrel
    cases gk with
    | zero => exact absurd HA.out (by simp [umbelref02_Of.l0])
    | succ k1 =>
      have H := HA.out
      clear HA
      simp only [umbelref02_Of.l0] at H
      by_cases c2 : x4_1 < (a0.size : Int)
      · rw [if_pos c2] at H
        have c2b0 : decide (x4_1 < (a0.size : Int)) = true := decide_eq_true c2
        clear c2
        by_cases c3 : 0 ≤ x4_1
        · rw [if_pos c3] at H
          have c3b0 : decide (0 ≤ x4_1) = true := decide_eq_true c3
          clear c3
          obtain ⟨y155, hy155⟩ : ∃ y_ : List Int, y_ = (([(Int.tdiv (bt a0 x4_1) 16) % 256, Int.tmod (bt a0 x4_1) 16] : List Int)) := ⟨_, rfl⟩
          replace H : (if x3_1.length + y155.length < 140737488355328 then (umbelref02_Of.l0 k1 a0 (x3_1 ++ y155) (wrap64 (x4_1 + 1))) else (none)) = some r := by first | (rw [hy155]; with_reducible exact H) | (have H2_ := (Option.bind_some _ _).symm.trans H; rw [hy155]; with_reducible exact H2_) | (have H2_ := (Option.bind_some _ _).symm.trans H; with_reducible exact H2_) | with_reducible exact H | (rw [hy155]; exact H) | exact H
          have Ny155 := Aside0.mk hy155
          clear hy155
          by_cases c6 : x3_1.length + y155.length < 140737488355328
          · rw [if_pos c6] at H
            have LMc6 := Aside0.mk c6
            clear c6
            obtain ⟨y158, hy158⟩ : ∃ y_ : List Int, y_ = (x3_1 ++ y155) := ⟨_, rfl⟩
            replace H : (umbelref02_Of.l0 k1 a0 y158 (wrap64 (x4_1 + 1))) = some r := by first | (rw [hy158]; with_reducible exact H) | (have H2_ := (Option.bind_some _ _).symm.trans H; rw [hy158]; with_reducible exact H2_) | (have H2_ := (Option.bind_some _ _).symm.trans H; with_reducible exact H2_) | with_reducible exact H | (rw [hy158]; exact H) | exact H
            have Ny158 := Aside0.mk hy158
            clear hy158
            have H' := Aside0.mk H
            clear H
            try go_wp2
            have n0_ := Aside0.mk (Kd.R_drew HO_3.out)
            have n1_ := Aside0.mk (below_drew1 HB.out)
            clear HO_3
            clear HB
            have HO_3 := n0_
            have HB := n1_
            clear n0_ n1_
            have p4 : 0 ≤ (x4_1 : Int) := of_decide_eq_true (by first | (with_reducible assumption) | assumption)
            have q4 : x4_1 < (a0.size : Int) := of_decide_eq_true (by first | (with_reducible assumption) | assumption)
            have hx4 := bt_at a0 x4_1
            replace p4 := eq_true p4
            replace q4 := eq_true q4
            have p5 : 0 ≤ (x4_1 : Int) := of_decide_eq_true (by first | (with_reducible assumption) | assumption)
            have q5 : x4_1 < (a0.size : Int) := of_decide_eq_true (by first | (with_reducible assumption) | assumption)
            have hx5 := bt_at a0 x4_1
            replace p5 := eq_true p5
            replace q5 := eq_true q5
            refine start_ (n := 12) (S := fun w' => True) (ds := []) #[false, false, false, false, false, false, false, false, false, false, false, false] (by kernel_rfl) rfl rfl trivial (fun hHeld => ?_); refine with_tabW umbelref02_Of.tab5 umbelref02_Of.bits5 (fun HT_ HW_ => ?_)
            generalize wr.drew = w7 at HO_3 HB hHeld ⊢
            refine pure_ (i := 0) (N := some 11) (v := ?_) (a' := ?_) #[true, false, false, false, false, false, false, false, false, false, false, false] rfl rfl (any_of HT_.out (by kernel_rfl)) (fun _ _ _ h => h) (Or.inl ⟨by rfl, ?_⟩) ?_ ?_
            rotate_left
            · intro w'
              go_simp
              with_reducible rfl
            rotate_left
            · simp only [Act.put, List.setIfInBounds_toArray, List.set_cons_zero, List.set_cons_succ, i64_w, i32_w]
              rfl
            refine pure_ (i := 1) (N := some 12) (v := ?_) (a' := ?_) #[true, true, false, false, false, false, false, false, false, false, false, false] rfl rfl (any_of HT_.out (by kernel_rfl)) (fun _ _ _ h => h) (Or.inl ⟨by rfl, ?_⟩) ?_ ?_
            rotate_left
            · intro w'
              go_simp
              with_reducible rfl
            rotate_left
            · simp only [Act.put, List.setIfInBounds_toArray, List.set_cons_zero, List.set_cons_succ, i64_w, i32_w]
              rfl
            refine pure_ (i := 2) (N := some 13) (v := ?_) (a' := ?_) #[true, true, true, false, false, false, false, false, false, false, false, false] rfl rfl (any_of HT_.out (by kernel_rfl)) (fun _ _ _ h => h) (Or.inl ⟨by rfl, ?_⟩) ?_ ?_
            rotate_left
            · intro w'
              go_simp
              with_reducible rfl
            rotate_left
            · simp only [Act.put, List.setIfInBounds_toArray, List.set_cons_zero, List.set_cons_succ, i64_w, i32_w]
              rfl
            refine pure_ (i := 5) (N := some 16) (v := ?_) (a' := ?_) #[true, true, true, false, false, true, false, false, false, false, false, false] rfl rfl (any_of HT_.out (by kernel_rfl)) (fun _ _ _ h => h) (Or.inl ⟨by rfl, ?_⟩) ?_ ?_
            rotate_left
            · intro w'
              go_simp
              with_reducible rfl
            rotate_left
            · simp only [Act.put, List.setIfInBounds_toArray, List.set_cons_zero, List.set_cons_succ, i64_w, i32_w]
              rfl
            refine pure_ (i := 6) (N := some 17) (v := ?_) (a' := ?_) #[true, true, true, false, false, true, true, false, false, false, false, false] rfl rfl (any_of HT_.out (by kernel_rfl)) (fun _ _ _ h => h) (Or.inl ⟨by rfl, ?_⟩) ?_ ?_
            rotate_left
            · intro w'
              go_simp
              with_reducible rfl
            rotate_left
            · simp only [Act.put, List.setIfInBounds_toArray, List.set_cons_zero, List.set_cons_succ, i64_w, i32_w]
              rfl
            refine take_ (i := 3) (N := some 14) (v := ?_) (a' := ?_) #[true, true, true, true, false, true, true, false, false, false, false, false] rfl rfl (take_ofW HT_.out HW_.out (by kernel_rfl)) (fun _ _ _ h => h) (Or.inl ⟨by rfl, ?_⟩) hHeld ?_ ?_
            rotate_left
            · intro w' _
              go_simp
              with_reducible rfl
            rotate_left
            · simp only [Act.put, List.setIfInBounds_toArray, List.set_cons_zero, List.set_cons_succ, i64_w, i32_w]
              rfl
            refine pure_ (i := 4) (N := some 15) (v := ?_) (a' := ?_) #[true, true, true, true, true, true, true, false, false, false, false, false] rfl rfl (any_of HT_.out (by kernel_rfl)) (fun _ _ _ h => h) (Or.inl ⟨by rfl, ?_⟩) ?_ ?_
            rotate_left
            · intro w'
              go_simp
              with_reducible rfl
            rotate_left
            · simp only [Act.put, List.setIfInBounds_toArray, List.set_cons_zero, List.set_cons_succ, i64_w, i32_w]
              rfl
            refine take_ (i := 7) (N := some 18) (v := ?_) (a' := ?_) #[true, true, true, true, true, true, true, true, false, false, false, false] rfl rfl (take_ofW HT_.out HW_.out (by kernel_rfl)) (fun _ _ _ h => h) (Or.inl ⟨by rfl, ?_⟩) hHeld ?_ ?_
            rotate_left
            · intro w' _
              go_simp
              with_reducible rfl
            rotate_left
            · simp only [Act.put, List.setIfInBounds_toArray, List.set_cons_zero, List.set_cons_succ, i64_w, i32_w]
              rfl
            refine pure_ (i := 8) (N := some 19) (v := ?_) (a' := ?_) #[true, true, true, true, true, true, true, true, true, false, false, false] rfl rfl (any_of HT_.out (by kernel_rfl)) (fun _ _ _ h => h) (Or.inl ⟨by rfl, ?_⟩) ?_ ?_
            rotate_left
            · intro w'
              go_simp
              with_reducible rfl
            rotate_left
            · simp only [Act.put, List.setIfInBounds_toArray, List.set_cons_zero, List.set_cons_succ, i64_w, i32_w]
              rfl
            refine one_ (i := 9) (N := some 20) #[true, true, true, true, true, true, true, true, true, true, false, false] rfl rfl (one_of HT_.out (by kernel_rfl)) (by decide) (fun K hK => ?_)
            refine Kd.R_lit_step (Kd.int .u8) _ 5 ?hg (N := 20) ?hd (xs := ([(Int.tdiv (bt a0 x4_1) 16) % 256, Int.tmod (bt a0 x4_1) 16] : List Int)) (inner := [.int .u8 ((Int.tdiv (bt a0 x4_1) 16) % 256), .int .u8 (Int.tmod (bt a0 x4_1) 16)]) (ok := fun _ => True) (okp := fun _ => True) ?hr ?hp (fun _ hk => hk) trivial (Below.refl _ _) (Nat.le_refl _) (by simp) ?_; (case hd => rfl); (case hg => rfl); (case hr => first | (go_simp; done) | (go_simp; rfl)); (case hp => exact (Reps.one (show Kd.M (Kd.int .u8) _ _ _ ((Int.tdiv (bt a0 x4_1) 16) % 256) [.int .u8 ((Int.tdiv (bt a0 x4_1) 16) % 256)] from rfl) (Reps.one (show Kd.M (Kd.int .u8) _ _ _ (Int.tmod (bt a0 x4_1) 16) [.int .u8 (Int.tmod (bt a0 x4_1) 16)] from rfl) (Reps.none _ _))))
            intro v156 w8 ho9 hb hg_ hnew_
            clear hg_ hnew_
            (first | rw [← Ny155.out] at ho9 | (simp only [Int.reduceToNat] at ho9; rw [← Ny155.out] at ho9))
            have n0_ := Aside0.mk (Kd.R_elder' (by (with_reducible repeat (first | apply Kd.R_alloc | apply Kd.R_drewN | apply Kd.R_drew)); exact HO_3.out) (Kd.R_base ho9) hb)
            have n1_ := Aside0.mk (Kd.R_lower (Kd.R_new' ho9 (Kd.R_lt (by (with_reducible repeat (first | apply Kd.R_alloc | apply Kd.R_drewN | apply Kd.R_drew)); exact HO_3.out))) (below_size (by repeat (first | (with_reducible first | exact HB.out | apply below_alloc | apply pw_below_drewN | apply below_drew1) | exact HB.out))))
            have n2_ := Aside0.mk (below_step (by repeat (first | (with_reducible first | exact HB.out | apply below_alloc | apply pw_below_drewN | apply below_drew1) | exact HB.out)) hb)
            clear HO_3
            clear HB
            have HO_3 := n0_
            have HO157 := n1_
            have HB := n2_
            clear n0_ n1_ n2_
            clear hb ho9
            obtain ⟨Ao11, co11, eo11⟩ := Kd.R_slice HO157.out
            (first | subst eo11 | (injection eo11 with f1_ f2_ f3_; have f4_ := f1_.symm; have f5_ := f3_.symm; clear f1_ f2_ f3_; subst f4_; subst f5_))
            refine hK.out _ _ trivial (fun hHeld => ?_)
            clear hK K
            refine norm_ (a' := ?_) ?_ ?_
            rotate_left
            · show Act.put _ (some 20) _ = _
              simp only [Act.put, List.setIfInBounds_toArray, List.set_cons_zero, List.set_cons_succ, i64_w, i32_w]
              rfl
            refine one_ (i := 10) (N := some 21) #[true, true, true, true, true, true, true, true, true, true, true, false] rfl rfl (one_of HT_.out (by kernel_rfl)) (by decide) (fun K hK => ?_)
            refine Kd.R_append_rows_step (Kd.int .u8) (w0 := w) w.heap.size (by rfl) (.tmp 11) (.tmp 20) 53 5 (.int .u8 0) 1 rfl Try.underlying53 info5 rfl (by decide) (by omega) u3 x3_1 y155 _ _ _ (fun k_ => some k_ ≠ (.slice Ao11 y155.length co11 : Value).ownBlock) (fun _ => False) rfl rfl ?aO ?aR (fun _ _ h => h) (fun _ h => h.elim) ?aF ?aB ?aS ?aL ?_
            (case aR => repeat (first | exact (Kd.R_reads' HO157.out).2.2 | (with_reducible refine Kd.C_alloc ?_ _) | (with_reducible refine Kd.C_drewN ?_ _) | (with_reducible refine Kd.C_drew ?_)))
            (case aB => exact (by repeat (first | (with_reducible first | exact HB.out | apply below_alloc | apply pw_below_drewN | apply below_drew1) | exact HB.out)))
            (case aF => exact (fun k_ hk => Kd.fresh' (Kd.R_lt (by (with_reducible repeat (first | apply Kd.R_alloc | apply Kd.R_drewN | apply Kd.R_drew)); exact HO157.out)) k_ hk))
            (case aO => exact (by (with_reducible repeat (first | apply Kd.R_alloc | apply Kd.R_drewN | apply Kd.R_drew)); exact Kd.R_mono HO_3.out (fun _ hk => hk.2)))
            (case aS => exact (below_size (by repeat (first | (with_reducible first | exact HB.out | apply below_alloc | apply pw_below_drewN | apply below_drew1) | exact HB.out))))
            (case aL => have := LMc6.out; omega)
            intro v159 w10 ho hb hg hat
            rw [← Ny158.out] at ho
            have n0_ := Aside0.mk (Kd.R_after (ok := (fun _ => True)) (by (with_reducible repeat (first | apply Kd.R_alloc | apply Kd.R_drewN | apply Kd.R_drew)); exact HO157.out) hg hat)
            have n1_ := Aside0.mk (hb)
            have n2_ := Aside0.mk (ho)
            clear HO157
            clear HB
            clear HO_3
            have HO157 := n0_
            have HB := n1_
            have HO160 := n2_
            clear n0_ n1_ n2_
            clear ho hb hg hat
            refine hK.out _ _ trivial (fun hHeld => ?_)
            clear hK K
            refine norm_ (a' := ?_) ?_ ?_
            rotate_left
            · show Act.put _ (some 21) _ = _
              simp only [Act.put, List.setIfInBounds_toArray, List.set_cons_zero, List.set_cons_succ, i64_w, i32_w]
              rfl
            refine pure_ (i := 11) (N := some 3) (v := ?_) (a' := ?_) #[true, true, true, true, true, true, true, true, true, true, true, true] rfl rfl (any_of HT_.out (by kernel_rfl)) (fun _ _ _ h => h) (Or.inl ⟨by rfl, ?_⟩) ?_ ?_
            rotate_left
            · intro w'
              go_simp
              with_reducible rfl
            rotate_left
            · simp only [Act.put, List.setIfInBounds_toArray, List.set_cons_zero, List.set_cons_succ, i64_w, i32_w]
              rfl
            refine done_ (done_of HT_.out (by kernel_rfl)) ?_
            try go_wp2
            go_roundg k1
            case measure => have := HK1.out; omega
            case rel => exact ⟨(y158), (wrap64 (x4_1 + 1)), (by first | rfl | (simp; done) | (simp [*]; done)), H', ⟨by have := HK1.out; omega⟩, ⟨by (with_reducible repeat (first | apply Kd.R_alloc | apply Kd.R_drewN | apply Kd.R_drew)); exact Kd.R_mono HO160.out (fun _ hk => trivial)⟩, ⟨by repeat (first | (with_reducible first | exact HB.out | apply below_alloc | apply pw_below_drewN | apply below_drew1) | exact HB.out)⟩⟩
          · rw [if_neg c6] at H
            exact absurd H (by simp)
        · rw [if_neg c3] at H
          exact absurd H (by simp)
      · rw [if_neg c2] at H
        have c2b0 : decide (x4_1 < (a0.size : Int)) = false := decide_eq_false c2
        clear c2
        obtain rfl := Option.some.inj H
        have hcv12 := own_string (P := Try.prog) Try.underlying53 Try.underlying5 Try.underlying9 (Kd.own_of_R HO_3.out)
        go_wp2
        go_ret
        exact ⟨by first | rfl | (simp [errW_none, errW_some] <;> rfl) | (simp [*, errW_none, errW_some] <;> rfl), by repeat (first | (with_reducible first | exact HB.out | apply below_alloc | apply pw_below_drewN | apply below_drew1) | exact HB.out)⟩

/-! ### umbelref02_Unpack: function 17 -/
def umbelref02_Unpack.j0 : Nat → ByteArray → Bool → Option (ByteArray × Int × Bool)
  | 0, _, _ => none
  | k + 1, x0, x14 => if x14 = true then (some ((⟨#[]⟩ : ByteArray), 0, false)) else (if 0 < (x0.size : Int) then (if (wrap64 (1 + (wrap64 (Int.tdiv (wrap64 ((wrap64 (bt x0 0)) + 1)) 2)))) > (x0.size : Int) then (some ((⟨#[]⟩ : ByteArray), 0, false)) else (if 1 ≤ (wrap64 (1 + (wrap64 (Int.tdiv (wrap64 ((wrap64 (bt x0 0)) + 1)) 2)))) then (if (wrap64 (1 + (wrap64 (Int.tdiv (wrap64 ((wrap64 (bt x0 0)) + 1)) 2)))) ≤ (x0.size : Int) then ((umbelref02_Of.f k (x0.extract 1 ((wrap64 (1 + (wrap64 (Int.tdiv (wrap64 ((wrap64 (bt x0 0)) + 1)) 2)))) : Int).toNat)).bind fun t162 => (if 0 ≤ (wrap64 (bt x0 0)) then (if (wrap64 (bt x0 0)) ≤ (t162.size : Int) then ((umbelref02_Pack.f k (t162.extract 0 ((wrap64 (bt x0 0)) : Int).toNat)).bind fun bt164 => (if 0 ≤ (wrap64 (1 + (wrap64 (Int.tdiv (wrap64 ((wrap64 (bt x0 0)) + 1)) 2)))) then (if bt164.1.toList = (x0.extract 0 ((wrap64 (1 + (wrap64 (Int.tdiv (wrap64 ((wrap64 (bt x0 0)) + 1)) 2)))) : Int).toNat).toList then (some (t162.extract 0 ((wrap64 (bt x0 0)) : Int).toNat, wrap64 (1 + (wrap64 (Int.tdiv (wrap64 ((wrap64 (bt x0 0)) + 1)) 2))), true)) else (some ((⟨#[]⟩ : ByteArray), 0, false))) else (none))) else (none)) else (none))) else (none)) else (none))) else (none))
def umbelref02_Unpack.f (k : Nat) (a0 : ByteArray) : Option (ByteArray × Int × Bool) := if (a0.size : Int) < 1 then (umbelref02_Unpack.j0 k a0 true) else (if 0 < (a0.size : Int) then (umbelref02_Unpack.j0 k a0 (decide ((bt a0 0) > 16))) else (none))
theorem umbelref02_Unpack.mono_l : ∀ k, (∀ y0 y1, LeO (umbelref02_Unpack.j0 k y0 y1) (umbelref02_Unpack.j0 (k + 1) y0 y1))
  | 0 => fun _ _ r h => by simp [umbelref02_Unpack.j0] at h
  | k + 1 => by
    have ih0 := umbelref02_Unpack.mono_l k
    · intro y0 y1
      unfold umbelref02_Unpack.j0
      repeat' first
      | (with_reducible exact ih0 _ _)
      | (with_reducible exact umbelref02_Of.mono _ _)
      | (with_reducible exact umbelref02_Pack.mono _ _)
      | (with_reducible exact LeO.refl _)
      | (with_reducible exact LeO.none _)
      | (with_reducible refine LeO.ite ?_ ?_)
      | (with_reducible refine LeO.bind ?_ (fun _ => ?_))
      | exact ih0 _ _
      | exact umbelref02_Of.mono _ _
      | exact umbelref02_Pack.mono _ _
      | exact LeO.none _
      | refine LeO.ite ?_ ?_
      | refine LeO.bind ?_ (fun _ => ?_)
theorem umbelref02_Unpack.mono : ∀ a0 k, LeO (umbelref02_Unpack.f k a0) (umbelref02_Unpack.f (k + 1) a0) := by
  intro a0 k
  have ih0 := umbelref02_Unpack.mono_l k
  unfold umbelref02_Unpack.f
  repeat' first
      | (with_reducible exact ih0 _ _)
      | (with_reducible exact umbelref02_Of.mono _ _)
      | (with_reducible exact umbelref02_Pack.mono _ _)
      | (with_reducible exact LeO.refl _)
      | (with_reducible exact LeO.none _)
      | (with_reducible refine LeO.ite ?_ ?_)
      | (with_reducible refine LeO.bind ?_ (fun _ => ?_))
      | exact ih0 _ _
      | exact umbelref02_Of.mono _ _
      | exact umbelref02_Pack.mono _ _
      | exact LeO.none _
      | refine LeO.ite ?_ ?_
      | refine LeO.bind ?_ (fun _ => ?_)
def umbelref02_Unpack.T9 : Bool × List (List Nat × List Nat) := (true, [([], []), ([0], [0]), ([1], [1]), ([2], [2]), ([], []), ([], []), ([4, 5], [4, 5]), ([3, 6], [3, 6])])
def umbelref02_Unpack.B9 : List Nat := [0, 1, 3, 7, 0, 0, 48, 127]
theorem umbelref02_Unpack.tab9 : rtab .any (opsOf Try.f17 9) = umbelref02_Unpack.T9 := by kernel_rfl
theorem umbelref02_Unpack.bits9 : waitsOk umbelref02_Unpack.T9.2 umbelref02_Unpack.B9 = true := by kernel_rfl
set_option maxHeartbeats 8000000 in
set_option maxRecDepth 100000 in
theorem umbelref02_Unpack.calls (k : Nat) (a0 : ByteArray) (r1 : ByteArray) (r2 : Int) (r3 : Bool) (w : World) (h : umbelref02_Unpack.f k a0 = some (r1, r2, r3)) :
    Calls Try.prog 17 #[.string a0] w fun e w' => e = .returned (.agg #[.string r1, .int .i64 r2, .bool r3]) ∧ Below w.heap.size w w' := by
  have hfd28_0 : ∀ (x0_ x1_ : Value) (W : World), (Instr.field 28 (.agg #[x0_, x1_]) 0).run Try.prog W = .ok (x0_) W := fun x0_ x1_ W => by kernel_rfl
  have hu31 := Try.underlying31
  have hu28 := Try.underlying28
  have HB := Aside0.mk (Below.refl w.heap.size w)
  have H : (if (a0.size : Int) < 1 then (umbelref02_Unpack.j0 k a0 true) else (if 0 < (a0.size : Int) then (umbelref02_Unpack.j0 k a0 (decide ((bt a0 0) > 16))) else (none))) = some (r1, r2, r3) := h
  clear h
  have HC2 := Aside0.mk H
  clear H
  go_enter Try.func17, Try.ntmps17
  go_upto_region 1 with (first | ((with_reducible refine gate_dst (N := 2) rfl ?_); refine box_event ?hg (N := 2) ?hd (cs := #[.string (⟨#[]⟩ : ByteArray), .int .i64 0, .bool false]) (t := 31) ?hr ?_; (case hd => rfl); (case hg => rfl); (case hr => first | (go_simp; done) | (go_simp; rfl)); intro gb161 hg w3 hbox hb; have n0_ := Aside0.mk (below_step (by repeat (first | (with_reducible first | exact HB.out | apply below_alloc | apply pw_below_drewN | apply below_drew1) | exact HB.out)) hb); have n1_ := Aside0.mk (hbox); have n2_ := Aside0.mk ((by rw [hg]; exact (below_size (by repeat (first | (with_reducible first | exact HB.out | apply below_alloc | apply pw_below_drewN | apply below_drew1) | exact HB.out))) : w.heap.size ≤ gb161)); have n3_ := Aside0.mk ((by rw [hg]; exact (below_size (by repeat (first | (with_reducible first | exact HB.out | apply below_alloc | apply pw_below_drewN | apply below_drew1) | exact HB.out))) : w.heap.size ≤ gb161)); clear HB; have HB := n0_; have BK161 := n1_; have GW161 := n2_; have GE161 := n3_; clear n0_ n1_ n2_ n3_; clear hb hbox hg))
  (try simp only [Act.put, List.setIfInBounds_toArray, List.set_cons_zero, List.set_cons_succ])
  go_cut [14] (fun v14 wc => ∃ (kq : Nat) (x14_1 : Bool), v14 = .bool x14_1 ∧ Aside0 (umbelref02_Unpack.j0 kq a0 x14_1 = some (r1, r2, r3)) ∧ Aside0 (kq ≤ k) ∧ Aside0 (wc.heap[gb161]? = some (.cells #[.string (⟨#[]⟩ : ByteArray), .int .i64 0, .bool false] 31 (0, 0))) ∧ Aside0 (Below w.heap.size w wc))
  case first =>
    have H := HC2.out
    clear HC2
    by_cases c4 : (a0.size : Int) < 1
    · rw [if_pos c4] at H
      have c4b0 : decide ((a0.size : Int) < 1) = true := decide_eq_true c4
      have c4b1 : decide (a0.size < 1) = true := decide_eq_true (by omega)
      clear c4
      (first | rw [c4b0] | (simp only [i64_w, i32_w]; rw [c4b0]) | skip)
      have H' := Aside0.mk H
      clear H
      go_wp2
      go_meet
      case rel => exact ⟨_, (true), (by first | rfl | (simp; done) | (simp [*]; done)), H', ⟨by first | omega | exact Nat.le_refl _⟩, ⟨by (with_reducible repeat (first | refine blk_drewN ?_ _ | refine blk_drew ?_ | refine blk_alloc ?_ _)); exact BK161.out⟩, ⟨by repeat (first | (with_reducible first | exact HB.out | apply below_alloc | apply pw_below_drewN | apply below_drew1 | refine below_set ?_ GE161.out) | exact HB.out)⟩⟩
    · rw [if_neg c4] at H
      have c4b0 : decide ((a0.size : Int) < 1) = false := decide_eq_false c4
      have c4b1 : decide (a0.size < 1) = false := decide_eq_false (by omega)
      clear c4
      (first | rw [c4b0] | (simp only [i64_w, i32_w]; rw [c4b0]) | skip)
      by_cases c5 : 0 < (a0.size : Int)
      · rw [if_pos c5] at H
        have c5b0 : decide (0 < (a0.size : Int)) = true := decide_eq_true c5
        have c5b1 : decide (0 < a0.size) = true := decide_eq_true (by omega)
        clear c5
        have H' := Aside0.mk H
        clear H
        have p6 : 0 ≤ (0 : Int) := (by omega)
        have q6 : 0 < a0.size := (by have : (0 : Int) < (a0.size : Int) := of_decide_eq_true (by first | (with_reducible assumption) | assumption); omega)
        have hx6 : ∀ h : 0 < a0.size, ((a0[0]'h).toNat : Int) = bt a0 0 := bt_at a0 0
        clear p6
        have qi6 : (0 < (a0.size : Int)) = True := eq_true (of_decide_eq_true (by first | (with_reducible assumption) | assumption))
        replace q6 := eq_true q6
        go_wp2
        go_meet
        case rel => exact ⟨_, (decide ((bt a0 0) > 16)), (by first | rfl | (simp; done) | (simp [*]; done)), H', ⟨by first | omega | exact Nat.le_refl _⟩, ⟨by (with_reducible repeat (first | refine blk_drewN ?_ _ | refine blk_drew ?_ | refine blk_alloc ?_ _)); exact BK161.out⟩, ⟨by repeat (first | (with_reducible first | exact HB.out | apply below_alloc | apply pw_below_drewN | apply below_drew1 | refine below_set ?_ GE161.out) | exact HB.out)⟩⟩
      · rw [if_neg c5] at H
        exact absurd H (by simp)
  case rest =>
    clear HC2
    try clear c1
    try clear p2
    try clear c4
    try clear c4b0
    try clear c4b1
    try clear c5
    try clear c5b0
    try clear c5b1
    try clear p6
    try clear q6
    try clear hx6
    try clear qi6
    try clear p6
    try clear q6
    obtain ⟨kq, x14_1, rfl, HA, HJ1, BK161, HB⟩ := hcut
    cases kq with
    | zero => exact absurd HA.out (by simp [umbelref02_Unpack.j0])
    | succ kj1 =>
      have H := HA.out
      clear HA
      simp only [umbelref02_Unpack.j0] at H
      by_cases c7 : x14_1 = true
      · subst c7
        have H1 : (some ((⟨#[]⟩ : ByteArray), 0, false)) = some (r1, r2, r3) := by rw [if_pos rfl] at H; exact H
        clear H
        have H := H1
        clear H1
        simp only [Option.some.injEq, Prod.mk.injEq] at H
        obtain ⟨rfl, rfl, rfl⟩ := H
        have hcz8_0 : wc.cell? ⟨gb161, 0, none⟩ = some (.string (⟨#[]⟩ : ByteArray)) := (blk_cell BK161.out 0).trans rfl
        have hcz8_1 : wc.cell? ⟨gb161, 1, none⟩ = some (.int .i64 0) := (blk_cell BK161.out 1).trans rfl
        have hcz8_2 : wc.cell? ⟨gb161, 2, none⟩ = some (.bool false) := (blk_cell BK161.out 2).trans rfl
        have hfz8_0 := blk_frozen BK161.out 0
        have hfz8_1 := blk_frozen BK161.out 1
        have hfz8_2 := blk_frozen BK161.out 2
        go_wp2
        refine bodyPost_ret (results_cell_row rfl _ _ gb161 31 #[.string (⟨#[]⟩ : ByteArray), .int .i64 0, .bool false] (0, 0) _ rfl (by (with_reducible repeat (first | refine blk_drewN ?_ _ | refine blk_drew ?_ | refine blk_alloc ?_ _)); refine blk_put (cs := #[.string (⟨#[]⟩ : ByteArray), .int .i64 0, .bool false]) ?_ 2 _ rfl; (with_reducible repeat (first | refine blk_drewN ?_ _ | refine blk_drew ?_ | refine blk_alloc ?_ _)); refine blk_put (cs := #[.string (⟨#[]⟩ : ByteArray), .int .i64 0, .bool false]) ?_ 1 _ rfl; (with_reducible repeat (first | refine blk_drewN ?_ _ | refine blk_drew ?_ | refine blk_alloc ?_ _)); refine blk_put (cs := #[.string (⟨#[]⟩ : ByteArray), .int .i64 0, .bool false]) ?_ 0 _ rfl; (with_reducible repeat (first | refine blk_drewN ?_ _ | refine blk_drew ?_ | refine blk_alloc ?_ _)); exact BK161.out) Try.underlying31 rfl (by kernel_rfl)) rfl ?_
        exact ⟨by first | rfl | (simp [errW_none, errW_some] <;> rfl) | (simp [*, errW_none, errW_some] <;> rfl), by repeat (first | (with_reducible first | exact HB.out | apply below_alloc | apply pw_below_drewN | apply below_drew1 | refine below_set ?_ GE161.out) | exact HB.out)⟩
      · replace c7 := Bool.eq_false_iff.mpr c7
        subst c7
        have H1 : (if 0 < (a0.size : Int) then (if (wrap64 (1 + (wrap64 (Int.tdiv (wrap64 ((wrap64 (bt a0 0)) + 1)) 2)))) > (a0.size : Int) then (some ((⟨#[]⟩ : ByteArray), 0, false)) else (if 1 ≤ (wrap64 (1 + (wrap64 (Int.tdiv (wrap64 ((wrap64 (bt a0 0)) + 1)) 2)))) then (if (wrap64 (1 + (wrap64 (Int.tdiv (wrap64 ((wrap64 (bt a0 0)) + 1)) 2)))) ≤ (a0.size : Int) then ((umbelref02_Of.f kj1 (a0.extract 1 ((wrap64 (1 + (wrap64 (Int.tdiv (wrap64 ((wrap64 (bt a0 0)) + 1)) 2)))) : Int).toNat)).bind fun t162 => (if 0 ≤ (wrap64 (bt a0 0)) then (if (wrap64 (bt a0 0)) ≤ (t162.size : Int) then ((umbelref02_Pack.f kj1 (t162.extract 0 ((wrap64 (bt a0 0)) : Int).toNat)).bind fun bt164 => (if 0 ≤ (wrap64 (1 + (wrap64 (Int.tdiv (wrap64 ((wrap64 (bt a0 0)) + 1)) 2)))) then (if bt164.1.toList = (a0.extract 0 ((wrap64 (1 + (wrap64 (Int.tdiv (wrap64 ((wrap64 (bt a0 0)) + 1)) 2)))) : Int).toNat).toList then (some (t162.extract 0 ((wrap64 (bt a0 0)) : Int).toNat, wrap64 (1 + (wrap64 (Int.tdiv (wrap64 ((wrap64 (bt a0 0)) + 1)) 2))), true)) else (some ((⟨#[]⟩ : ByteArray), 0, false))) else (none))) else (none)) else (none))) else (none)) else (none))) else (none)) = some (r1, r2, r3) := by rw [if_neg (show ¬ (false = true) by decide)] at H; exact H
        clear H
        have H := H1
        clear H1
        by_cases c9 : 0 < (a0.size : Int)
        · rw [if_pos c9] at H
          have c9b0 : decide (0 < (a0.size : Int)) = true := decide_eq_true c9
          have c9b1 : decide (0 < a0.size) = true := decide_eq_true (by omega)
          clear c9
          by_cases c11 : (wrap64 (1 + (wrap64 (Int.tdiv (wrap64 ((wrap64 (bt a0 0)) + 1)) 2)))) > (a0.size : Int)
          · rw [if_pos c11] at H
            have c11b0 : decide ((a0.size : Int) < (wrap64 (1 + (wrap64 (Int.tdiv (wrap64 ((wrap64 (bt a0 0)) + 1)) 2))))) = true := decide_eq_true c11
            clear c11
            simp only [Option.some.injEq, Prod.mk.injEq] at H
            obtain ⟨rfl, rfl, rfl⟩ := H
            have p10 : 0 ≤ (0 : Int) := (by omega)
            have q10 : 0 < a0.size := (by have : (0 : Int) < (a0.size : Int) := of_decide_eq_true (by first | (with_reducible assumption) | assumption); omega)
            have hx10 : ∀ h : 0 < a0.size, ((a0[0]'h).toNat : Int) = bt a0 0 := bt_at a0 0
            clear p10
            have qi10 : (0 < (a0.size : Int)) = True := eq_true (of_decide_eq_true (by first | (with_reducible assumption) | assumption))
            replace q10 := eq_true q10
            have hcz12_0 : wc.cell? ⟨gb161, 0, none⟩ = some (.string (⟨#[]⟩ : ByteArray)) := (blk_cell BK161.out 0).trans rfl
            have hcz12_1 : wc.cell? ⟨gb161, 1, none⟩ = some (.int .i64 0) := (blk_cell BK161.out 1).trans rfl
            have hcz12_2 : wc.cell? ⟨gb161, 2, none⟩ = some (.bool false) := (blk_cell BK161.out 2).trans rfl
            have hfz12_0 := blk_frozen BK161.out 0
            have hfz12_1 := blk_frozen BK161.out 1
            have hfz12_2 := blk_frozen BK161.out 2
            go_wp2
            refine bodyPost_ret (results_cell_row rfl _ _ gb161 31 #[.string (⟨#[]⟩ : ByteArray), .int .i64 0, .bool false] (0, 0) _ rfl (by (with_reducible repeat (first | refine blk_drewN ?_ _ | refine blk_drew ?_ | refine blk_alloc ?_ _)); refine blk_put (cs := #[.string (⟨#[]⟩ : ByteArray), .int .i64 0, .bool false]) ?_ 2 _ rfl; (with_reducible repeat (first | refine blk_drewN ?_ _ | refine blk_drew ?_ | refine blk_alloc ?_ _)); refine blk_put (cs := #[.string (⟨#[]⟩ : ByteArray), .int .i64 0, .bool false]) ?_ 1 _ rfl; (with_reducible repeat (first | refine blk_drewN ?_ _ | refine blk_drew ?_ | refine blk_alloc ?_ _)); refine blk_put (cs := #[.string (⟨#[]⟩ : ByteArray), .int .i64 0, .bool false]) ?_ 0 _ rfl; (with_reducible repeat (first | refine blk_drewN ?_ _ | refine blk_drew ?_ | refine blk_alloc ?_ _)); exact BK161.out) Try.underlying31 rfl (by kernel_rfl)) rfl ?_
            exact ⟨by first | rfl | (simp [errW_none, errW_some] <;> rfl) | (simp [*, errW_none, errW_some] <;> rfl), by repeat (first | (with_reducible first | exact HB.out | apply below_alloc | apply pw_below_drewN | apply below_drew1 | refine below_set ?_ GE161.out) | exact HB.out)⟩
          · rw [if_neg c11] at H
            have c11b0 : decide ((a0.size : Int) < (wrap64 (1 + (wrap64 (Int.tdiv (wrap64 ((wrap64 (bt a0 0)) + 1)) 2))))) = false := decide_eq_false c11
            clear c11
            by_cases c13 : 1 ≤ (wrap64 (1 + (wrap64 (Int.tdiv (wrap64 ((wrap64 (bt a0 0)) + 1)) 2))))
            · rw [if_pos c13] at H
              have c13b0 := eq_true c13
              have c13b1 : decide (1 ≤ (wrap64 (1 + (wrap64 (Int.tdiv (wrap64 ((wrap64 (bt a0 0)) + 1)) 2))))) = true := decide_eq_true c13
              by_cases c14 : (wrap64 (1 + (wrap64 (Int.tdiv (wrap64 ((wrap64 (bt a0 0)) + 1)) 2)))) ≤ (a0.size : Int)
              · rw [if_pos c14] at H
                have c14b0 := eq_true c14
                have c14b1 : decide ((wrap64 (1 + (wrap64 (Int.tdiv (wrap64 ((wrap64 (bt a0 0)) + 1)) 2)))) ≤ (a0.size : Int)) = true := decide_eq_true c14
                replace H := Option.bind_eq_some_iff.mp H
                obtain ⟨t162, A150, H⟩ := H
                replace H : (if 0 ≤ (wrap64 (bt a0 0)) then (if (wrap64 (bt a0 0)) ≤ (t162.size : Int) then ((umbelref02_Pack.f kj1 (t162.extract 0 ((wrap64 (bt a0 0)) : Int).toNat)).bind fun bt164 => (if 0 ≤ (wrap64 (1 + (wrap64 (Int.tdiv (wrap64 ((wrap64 (bt a0 0)) + 1)) 2)))) then (if bt164.1.toList = (a0.extract 0 ((wrap64 (1 + (wrap64 (Int.tdiv (wrap64 ((wrap64 (bt a0 0)) + 1)) 2)))) : Int).toNat).toList then (some (t162.extract 0 ((wrap64 (bt a0 0)) : Int).toNat, wrap64 (1 + (wrap64 (Int.tdiv (wrap64 ((wrap64 (bt a0 0)) + 1)) 2))), true)) else (some ((⟨#[]⟩ : ByteArray), 0, false))) else (none))) else (none)) else (none)) = some (r1, r2, r3) := H
                have A15 := Aside0.mk A150
                clear A150
                obtain ⟨ji16, hji16⟩ : ∃ j_ : Int, (wrap64 (bt a0 0)) = j_ := ⟨_, rfl⟩
                replace H : (if 0 ≤ (ji16) then (if (ji16) ≤ (t162.size : Int) then ((umbelref02_Pack.f kj1 (t162.extract 0 ((ji16) : Int).toNat)).bind fun bt164 => (if 0 ≤ (wrap64 (1 + (wrap64 (Int.tdiv (wrap64 ((ji16) + 1)) 2)))) then (if bt164.1.toList = (a0.extract 0 ((wrap64 (1 + (wrap64 (Int.tdiv (wrap64 ((ji16) + 1)) 2)))) : Int).toNat).toList then (some (t162.extract 0 ((ji16) : Int).toNat, wrap64 (1 + (wrap64 (Int.tdiv (wrap64 ((ji16) + 1)) 2))), true)) else (some ((⟨#[]⟩ : ByteArray), 0, false))) else (none))) else (none)) else (none)) = some (r1, r2, r3) := by first | (rw [hji16] at H; exact H) | (simp only [hji16] at H ⊢; exact H)
                (try rw [hji16] at c11b0)
                (try rw [hji16] at c13b0)
                (try rw [hji16] at c13b1)
                (try rw [hji16] at c13)
                (try rw [hji16] at c14b0)
                (try rw [hji16] at c14b1)
                (try rw [hji16] at c14)
                (try rw [hji16] at A15)
                have hji16w : (IntKind.i64.wrap (bt a0 0)) = ji16 := (i64_w _).trans hji16
                by_cases c17 : 0 ≤ (ji16)
                · rw [if_pos c17] at H
                  have c17b0 := eq_true c17
                  have c17b1 : decide (0 ≤ (ji16)) = true := decide_eq_true c17
                  clear c17
                  by_cases c18 : (ji16) ≤ (t162.size : Int)
                  · rw [if_pos c18] at H
                    have c18b0 := eq_true c18
                    have c18b1 : decide ((ji16) ≤ (t162.size : Int)) = true := decide_eq_true c18
                    clear c18
                    replace H := Option.bind_eq_some_iff.mp H
                    obtain ⟨⟨t164, t165⟩, A190, H⟩ := H
                    replace H : (if 0 ≤ (wrap64 (1 + (wrap64 (Int.tdiv (wrap64 ((ji16) + 1)) 2)))) then (if t164.toList = (a0.extract 0 ((wrap64 (1 + (wrap64 (Int.tdiv (wrap64 ((ji16) + 1)) 2)))) : Int).toNat).toList then (some (t162.extract 0 ((ji16) : Int).toNat, wrap64 (1 + (wrap64 (Int.tdiv (wrap64 ((ji16) + 1)) 2))), true)) else (some ((⟨#[]⟩ : ByteArray), 0, false))) else (none)) = some (r1, r2, r3) := H
                    have A19 := Aside0.mk A190
                    clear A190
                    obtain ⟨ji20, hji20⟩ : ∃ j_ : Int, (wrap64 (1 + (wrap64 (Int.tdiv (wrap64 ((ji16) + 1)) 2)))) = j_ := ⟨_, rfl⟩
                    replace H : (if 0 ≤ (ji20) then (if t164.toList = (a0.extract 0 ((ji20) : Int).toNat).toList then (some (t162.extract 0 ((ji16) : Int).toNat, ji20, true)) else (some ((⟨#[]⟩ : ByteArray), 0, false))) else (none)) = some (r1, r2, r3) := by first | (rw [hji20] at H; exact H) | (simp only [hji20] at H ⊢; exact H)
                    (try rw [hji20] at A15)
                    (try rw [hji20] at A19)
                    have hji20w : (IntKind.i64.wrap (1 + (wrap64 (Int.tdiv (wrap64 ((ji16) + 1)) 2)))) = ji20 := (i64_w _).trans hji20
                    by_cases c21 : 0 ≤ (ji20)
                    · rw [if_pos c21] at H
                      have c21b0 := eq_true c21
                      have c21b1 : decide (0 ≤ (ji20)) = true := decide_eq_true c21
                      clear c21
                      have c22b0 := eq_true (of_decide_eq_true (by first | (with_reducible assumption) | assumption | (rw [← hji20]; assumption)) : (ji20) ≤ (a0.size : Int))
                      by_cases c23 : t164.toList = (a0.extract 0 ((ji20) : Int).toNat).toList
                      · rw [if_pos c23] at H
                        have c23b0 : (t164.toList == (a0.extract 0 ((ji20) : Int).toNat).toList) = true := beq_iff_eq.mpr c23
                        have c23b1 : (t164.toList != (a0.extract 0 ((ji20) : Int).toNat).toList) = false := bne_eq_false_iff_eq.mpr c23
                        clear c23
                        simp only [Option.some.injEq, Prod.mk.injEq] at H
                        obtain ⟨rfl, rfl, rfl⟩ := H
                        have p10 : 0 ≤ (0 : Int) := (by omega)
                        have q10 : 0 < a0.size := (by have : (0 : Int) < (a0.size : Int) := of_decide_eq_true (by first | (with_reducible assumption) | assumption); omega)
                        have hx10 : ∀ h : 0 < a0.size, ((a0[0]'h).toNat : Int) = bt a0 0 := bt_at a0 0
                        clear p10
                        have qi10 : (0 < (a0.size : Int)) = True := eq_true (of_decide_eq_true (by first | (with_reducible assumption) | assumption))
                        replace q10 := eq_true q10
                        try go_wp2_with (first | ((with_reducible refine gate_callee (f := 19) rfl ?_); refine goesL_ (some 31) rfl rfl Try.func19 (by kernel_rfl) rfl #[.string (a0.extract 1 ((ji20) : Int).toNat)] rfl (by (try simp only [List.map_toArray, List.map_cons, List.map_nil]); first | done | (simp only [hji20]; rfl) | rfl | (simp only [List.length_drop, List.length_take]; rfl)) ?_; (with_reducible refine (umbelref02_Of.calls kj1 (a0.extract 1 ((ji20) : Int).toNat) t162 _ A15.out).mono ?_); rintro e w24 ⟨rfl, hb⟩; refine ⟨_, rfl, ?_⟩; have n0_ := Aside0.mk (blk_below (g := gb161) (o := .cells #[.string (⟨#[]⟩ : ByteArray), .int .i64 0, .bool false] 31 (0, 0)) (by (with_reducible repeat (first | refine blk_drewN ?_ _ | refine blk_drew ?_ | refine blk_alloc ?_ _)); exact BK161.out) hb); have n1_ := Aside0.mk (below_step (by repeat (first | (with_reducible first | exact HB.out | apply below_alloc | apply pw_below_drewN | apply below_drew1 | refine below_set ?_ GE161.out) | exact HB.out)) hb); clear BK161; clear HB; have BK161 := n0_; have HB := n1_; clear n0_ n1_; (try clear hb); (try clear hb2); (try clear hk); (try clear hi)) | ((with_reducible refine gate_dst (N := 6) rfl ?_); refine box_event ?hg (N := 6) ?hd (cs := #[.string (⟨#[]⟩ : ByteArray), .int .i64 0, .bool false]) (t := 31) ?hr ?_; (case hd => rfl); (case hg => rfl); (case hr => first | (go_simp; done) | (go_simp; rfl)); intro gb163 hg w25 hbox hb; have n0_ := Aside0.mk (blk_below (g := gb161) (o := .cells #[.string (⟨#[]⟩ : ByteArray), .int .i64 0, .bool false] 31 (0, 0)) (by (with_reducible repeat (first | refine blk_drewN ?_ _ | refine blk_drew ?_ | refine blk_alloc ?_ _)); exact BK161.out) hb); have n1_ := Aside0.mk (below_step (by repeat (first | (with_reducible first | exact HB.out | apply below_alloc | apply pw_below_drewN | apply below_drew1 | refine below_set ?_ GE161.out) | exact HB.out)) hb); have n2_ := Aside0.mk (hbox); have n3_ := Aside0.mk ((by rw [hg]; exact (below_size (by repeat (first | (with_reducible first | exact HB.out | apply below_alloc | apply pw_below_drewN | apply below_drew1 | refine below_set ?_ GE161.out) | exact HB.out))) : w.heap.size ≤ gb163)); have n4_ := Aside0.mk ((by rw [hg]; exact (below_size (by repeat (first | (with_reducible first | exact HB.out | apply below_alloc | apply pw_below_drewN | apply below_drew1 | refine below_set ?_ GE161.out) | exact HB.out))) : w.heap.size ≤ gb163)); have n5_ := Aside0.mk ((by rw [hg]; exact Nat.ne_of_lt (blk_lt (g := gb161) (o := .cells #[.string (⟨#[]⟩ : ByteArray), .int .i64 0, .bool false] 31 (0, 0)) (by (with_reducible repeat (first | refine blk_drewN ?_ _ | refine blk_drew ?_ | refine blk_alloc ?_ _)); exact BK161.out)) : gb161 ≠ gb163)); have n6_ := Aside0.mk ((by rw [hg]; exact Nat.ne_of_gt (blk_lt (g := gb161) (o := .cells #[.string (⟨#[]⟩ : ByteArray), .int .i64 0, .bool false] 31 (0, 0)) (by (with_reducible repeat (first | refine blk_drewN ?_ _ | refine blk_drew ?_ | refine blk_alloc ?_ _)); exact BK161.out)) : gb163 ≠ gb161)); clear BK161; clear HB; have BK161 := n0_; have HB := n1_; have BK163 := n2_; have GW163 := n3_; have GE163 := n4_; have NB161_163 := n5_; have NB163_161 := n6_; clear n0_ n1_ n2_ n3_ n4_ n5_ n6_; clear hb hbox hg; have hnb26 := NB163_161.out; have hnc26 := NB161_163.out; have hcz27_0 : w25.cell? ⟨gb163, 0, none⟩ = some (.string (⟨#[]⟩ : ByteArray)) := (blk_cell BK163.out 0).trans rfl; have hcz27_1 : w25.cell? ⟨gb163, 1, none⟩ = some (.int .i64 0) := (blk_cell BK163.out 1).trans rfl; have hcz27_2 : w25.cell? ⟨gb163, 2, none⟩ = some (.bool false) := (blk_cell BK163.out 2).trans rfl; have hfz27_0 := blk_frozen BK163.out 0; have hfz27_1 := blk_frozen BK163.out 1; have hfz27_2 := blk_frozen BK163.out 2))
                        have n0_ : Aside0 ((((w25.setCell ⟨gb163, 0, none⟩ (.string (t162.extract 0 ((ji16) : Int).toNat))).setCell ⟨gb163, 1, none⟩ (.int .i64 ji20)).setCell ⟨gb163, 2, none⟩ (.bool true)).heap[gb161]? = some (.cells #[.string (⟨#[]⟩ : ByteArray), .int .i64 0, .bool false] 31 (0, 0))) := ⟨by (with_reducible repeat (first | refine blk_drewN ?_ _ | refine blk_drew ?_ | refine blk_alloc ?_ _)); refine blk_far ?_ NB161_163.out _; (with_reducible repeat (first | refine blk_drewN ?_ _ | refine blk_drew ?_ | refine blk_alloc ?_ _)); refine blk_far ?_ NB161_163.out _; (with_reducible repeat (first | refine blk_drewN ?_ _ | refine blk_drew ?_ | refine blk_alloc ?_ _)); refine blk_far ?_ NB161_163.out _; (with_reducible repeat (first | refine blk_drewN ?_ _ | refine blk_drew ?_ | refine blk_alloc ?_ _)); exact BK161.out⟩
                        have n1_ : Aside0 ((((w25.setCell ⟨gb163, 0, none⟩ (.string (t162.extract 0 ((ji16) : Int).toNat))).setCell ⟨gb163, 1, none⟩ (.int .i64 ji20)).setCell ⟨gb163, 2, none⟩ (.bool true)).heap[gb163]? = some (.cells #[.string (t162.extract 0 ((ji16) : Int).toNat), .int .i64 ji20, .bool true] 31 (0, 0))) := ⟨by (with_reducible repeat (first | refine blk_drewN ?_ _ | refine blk_drew ?_ | refine blk_alloc ?_ _)); refine blk_put (cs := #[.string (t162.extract 0 ((ji16) : Int).toNat), .int .i64 ji20, .bool false]) ?_ 2 _ rfl; (with_reducible repeat (first | refine blk_drewN ?_ _ | refine blk_drew ?_ | refine blk_alloc ?_ _)); refine blk_put (cs := #[.string (t162.extract 0 ((ji16) : Int).toNat), .int .i64 0, .bool false]) ?_ 1 _ rfl; (with_reducible repeat (first | refine blk_drewN ?_ _ | refine blk_drew ?_ | refine blk_alloc ?_ _)); refine blk_put (cs := #[.string (⟨#[]⟩ : ByteArray), .int .i64 0, .bool false]) ?_ 0 _ rfl; (with_reducible repeat (first | refine blk_drewN ?_ _ | refine blk_drew ?_ | refine blk_alloc ?_ _)); exact BK163.out⟩
                        have n2_ : Aside0 (Below w.heap.size w (((w25.setCell ⟨gb163, 0, none⟩ (.string (t162.extract 0 ((ji16) : Int).toNat))).setCell ⟨gb163, 1, none⟩ (.int .i64 ji20)).setCell ⟨gb163, 2, none⟩ (.bool true))) := ⟨by repeat (first | (with_reducible first | exact HB.out | apply below_alloc | apply pw_below_drewN | apply below_drew1 | refine below_set ?_ GE161.out | refine below_set ?_ GE163.out) | exact HB.out)⟩
                        (try clear BK161)
                        (try clear BK163)
                        (try clear HB)
                        generalize (((w25.setCell ⟨gb163, 0, none⟩ (.string (t162.extract 0 ((ji16) : Int).toNat))).setCell ⟨gb163, 1, none⟩ (.int .i64 ji20)).setCell ⟨gb163, 2, none⟩ (.bool true)) = w28 at n0_ n1_ n2_ ⊢
                        have BK161 := n0_
                        have BK163 := n1_
                        have HB := n2_
                        clear n0_ n1_ n2_
                        have n0_ := Aside0.mk (blk_drew BK161.out)
                        have n1_ := Aside0.mk (blk_drew BK163.out)
                        have n2_ := Aside0.mk (below_drew1 HB.out)
                        clear BK161
                        clear BK163
                        clear HB
                        have BK161 := n0_
                        have BK163 := n1_
                        have HB := n2_
                        clear n0_ n1_ n2_
                        refine start_ (n := 8) (S := fun w' => w'.cell? ⟨gb163, 0, none⟩ = some (.string (t162.extract 0 ((ji16) : Int).toNat)) ∧ w'.cell? ⟨gb163, 1, none⟩ = some (.int .i64 ji20) ∧ w'.cell? ⟨gb163, 2, none⟩ = some (.bool true)) (ds := []) #[false, false, false, false, false, false, false, false] (by kernel_rfl) rfl rfl ⟨(blk_cell BK163.out 0).trans rfl, (blk_cell BK163.out 1).trans rfl, (blk_cell BK163.out 2).trans rfl⟩ (fun hHeld => ?_); refine with_tabW umbelref02_Unpack.tab9 umbelref02_Unpack.bits9 (fun HT_ HW_ => ?_)
                        generalize w28.drew = w29 at BK161 BK163 HB hHeld ⊢
                        refine pure_ (i := 0) (N := some 37) (v := ?_) (a' := ?_) #[true, false, false, false, false, false, false, false] rfl rfl (any_of HT_.out (by kernel_rfl)) (fun _ _ _ h => h) (Or.inl ⟨by rfl, ?_⟩) ?_ ?_
                        rotate_left
                        · intro w'
                          go_simp
                          with_reducible rfl
                        rotate_left
                        · simp only [Act.put, List.setIfInBounds_toArray, List.set_cons_zero, List.set_cons_succ, i64_w, i32_w]
                          rfl
                        refine pure_ (i := 4) (N := some 41) (v := ?_) (a' := ?_) #[true, false, false, false, true, false, false, false] rfl rfl (any_of HT_.out (by kernel_rfl)) (fun _ _ _ h => h) (Or.inl ⟨by rfl, ?_⟩) ?_ ?_
                        rotate_left
                        · intro w'
                          go_simp
                          with_reducible rfl
                        rotate_left
                        · simp only [Act.put, List.setIfInBounds_toArray, List.set_cons_zero, List.set_cons_succ, i64_w, i32_w]
                          rfl
                        refine pure_ (i := 5) (N := some 42) (v := ?_) (a' := ?_) #[true, false, false, false, true, true, false, false] rfl rfl (any_of HT_.out (by kernel_rfl)) (fun _ _ _ h => h) (Or.inl ⟨by rfl, ?_⟩) ?_ ?_
                        rotate_left
                        · intro w'
                          go_simp
                          with_reducible rfl
                        rotate_left
                        · simp only [Act.put, List.setIfInBounds_toArray, List.set_cons_zero, List.set_cons_succ, i64_w, i32_w]
                          rfl
                        refine pure_ (i := 6) (N := some 43) (v := ?_) (a' := ?_) #[true, false, false, false, true, true, true, false] rfl rfl (any_of HT_.out (by kernel_rfl)) (fun _ _ _ h => h) (Or.inl ⟨by rfl, ?_⟩) ?_ ?_
                        rotate_left
                        · intro w'
                          go_simp
                          with_reducible rfl
                        rotate_left
                        · simp only [Act.put, List.setIfInBounds_toArray, List.set_cons_zero, List.set_cons_succ, i64_w, i32_w]
                          rfl
                        refine take_ (i := 1) (N := some 38) (v := ?_) (a' := ?_) #[true, true, false, false, true, true, true, false] rfl rfl (take_ofW HT_.out HW_.out (by kernel_rfl)) (fun _ _ _ h => h) (Or.inl ⟨by rfl, ?_⟩) hHeld ?_ ?_
                        rotate_left
                        · rintro w' ⟨s0, s1, s2⟩
                          go_simp
                          with_reducible rfl
                        rotate_left
                        · simp only [Act.put, List.setIfInBounds_toArray, List.set_cons_zero, List.set_cons_succ, i64_w, i32_w]
                          rfl
                        refine one_ (i := 2) (N := some 39) #[true, true, true, false, true, true, true, false] rfl rfl (one_of HT_.out (by kernel_rfl)) (by decide) (fun K hK => ?_)
                        refine goes_ Try.func16 (by kernel_rfl) rfl #[.string (t162.extract 0 ((ji16) : Int).toNat)] (by rfl) rfl rfl (by (try simp only [List.map_toArray, List.map_cons, List.map_nil]); first | done | (simp only [hji16]; rfl) | rfl | (simp only [List.length_drop, List.length_take]; rfl)) ?_
                        with_reducible refine (umbelref02_Pack.calls kj1 (t162.extract 0 ((ji16) : Int).toNat) t164 t165 _ A19.out).mono ?_
                        rintro e w30 ⟨rfl, hb⟩
                        refine ⟨_, rfl, ?_⟩
                        have n0_ := Aside0.mk (blk_below (g := gb161) (o := .cells #[.string (⟨#[]⟩ : ByteArray), .int .i64 0, .bool false] 31 (0, 0)) (by (with_reducible repeat (first | refine blk_drewN ?_ _ | refine blk_drew ?_ | refine blk_alloc ?_ _)); exact BK161.out) hb)
                        have n1_ := Aside0.mk (blk_below (g := gb163) (o := .cells #[.string (t162.extract 0 ((ji16) : Int).toNat), .int .i64 ji20, .bool true] 31 (0, 0)) (by (with_reducible repeat (first | refine blk_drewN ?_ _ | refine blk_drew ?_ | refine blk_alloc ?_ _)); exact BK163.out) hb)
                        have n2_ := Aside0.mk (below_step (by repeat (first | (with_reducible first | exact HB.out | apply below_alloc | apply pw_below_drewN | apply below_drew1 | refine below_set ?_ GE161.out | refine below_set ?_ GE163.out) | exact HB.out)) hb)
                        clear BK161
                        clear BK163
                        clear HB
                        have BK161 := n0_
                        have BK163 := n1_
                        have HB := n2_
                        clear n0_ n1_ n2_
                        (try clear hb)
                        (try clear hb2)
                        (try clear hk)
                        (try clear hi)
                        refine hK.out _ _ ⟨(blk_cell BK163.out 0).trans rfl, (blk_cell BK163.out 1).trans rfl, (blk_cell BK163.out 2).trans rfl⟩ (fun hHeld => ?_)
                        clear hK K
                        refine norm_ (a' := ?_) ?_ ?_
                        rotate_left
                        · show Act.put _ (some 39) _ = _
                          simp only [Act.put, List.setIfInBounds_toArray, List.set_cons_zero, List.set_cons_succ, i64_w, i32_w]
                          rfl
                        refine pure_ (i := 3) (N := some 40) (v := ?_) (a' := ?_) #[true, true, true, true, true, true, true, false] rfl rfl (any_of HT_.out (by kernel_rfl)) (fun _ _ _ h => h) (Or.inl ⟨by rfl, ?_⟩) ?_ ?_
                        rotate_left
                        · intro w'
                          go_simp
                          with_reducible rfl
                        rotate_left
                        · simp only [Act.put, List.setIfInBounds_toArray, List.set_cons_zero, List.set_cons_succ, i64_w, i32_w]
                          rfl
                        refine pure_ (i := 7) (N := some 44) (v := ?_) (a' := ?_) #[true, true, true, true, true, true, true, true] rfl rfl (any_of HT_.out (by kernel_rfl)) (fun _ _ _ h => h) (Or.inl ⟨by rfl, ?_⟩) ?_ ?_
                        rotate_left
                        · intro w'
                          go_simp
                          with_reducible rfl
                        rotate_left
                        · simp only [Act.put, List.setIfInBounds_toArray, List.set_cons_zero, List.set_cons_succ, i64_w, i32_w]
                          rfl
                        refine done_ (done_of HT_.out (by kernel_rfl)) ?_
                        have hcz31_0 : w30.cell? ⟨gb163, 0, none⟩ = some (.string (t162.extract 0 ((ji16) : Int).toNat)) := (blk_cell BK163.out 0).trans rfl
                        have hcz31_1 : w30.cell? ⟨gb163, 1, none⟩ = some (.int .i64 ji20) := (blk_cell BK163.out 1).trans rfl
                        have hcz31_2 : w30.cell? ⟨gb163, 2, none⟩ = some (.bool true) := (blk_cell BK163.out 2).trans rfl
                        have hfz31_0 := blk_frozen BK163.out 0
                        have hfz31_1 := blk_frozen BK163.out 1
                        have hfz31_2 := blk_frozen BK163.out 2
                        have hcz32_0 : w30.cell? ⟨gb161, 0, none⟩ = some (.string (⟨#[]⟩ : ByteArray)) := (blk_cell BK161.out 0).trans rfl
                        have hcz32_1 : w30.cell? ⟨gb161, 1, none⟩ = some (.int .i64 0) := (blk_cell BK161.out 1).trans rfl
                        have hcz32_2 : w30.cell? ⟨gb161, 2, none⟩ = some (.bool false) := (blk_cell BK161.out 2).trans rfl
                        have hfz32_0 := blk_frozen BK161.out 0
                        have hfz32_1 := blk_frozen BK161.out 1
                        have hfz32_2 := blk_frozen BK161.out 2
                        try go_wp2
                        refine bodyPost_ret (results_cell_row rfl _ _ gb161 31 #[.string (t162.extract 0 ((ji16) : Int).toNat), .int .i64 ji20, .bool true] (0, 0) _ rfl (by (with_reducible repeat (first | refine blk_drewN ?_ _ | refine blk_drew ?_ | refine blk_alloc ?_ _)); refine blk_put (cs := #[.string (t162.extract 0 ((ji16) : Int).toNat), .int .i64 ji20, .bool false]) ?_ 2 _ rfl; (with_reducible repeat (first | refine blk_drewN ?_ _ | refine blk_drew ?_ | refine blk_alloc ?_ _)); refine blk_put (cs := #[.string (t162.extract 0 ((ji16) : Int).toNat), .int .i64 0, .bool false]) ?_ 1 _ rfl; (with_reducible repeat (first | refine blk_drewN ?_ _ | refine blk_drew ?_ | refine blk_alloc ?_ _)); refine blk_put (cs := #[.string (⟨#[]⟩ : ByteArray), .int .i64 0, .bool false]) ?_ 0 _ rfl; (with_reducible repeat (first | refine blk_drewN ?_ _ | refine blk_drew ?_ | refine blk_alloc ?_ _)); exact BK161.out) Try.underlying31 rfl (by kernel_rfl)) rfl ?_
                        exact ⟨by first | rfl | (simp [errW_none, errW_some] <;> rfl) | (simp only [← hji16, ← hji20]; first | rfl | (simp [errW_none, errW_some] <;> rfl)) | (simp [*, errW_none, errW_some] <;> rfl), by repeat (first | (with_reducible first | exact HB.out | apply below_alloc | apply pw_below_drewN | apply below_drew1 | refine below_set ?_ GE161.out | refine below_set ?_ GE163.out) | exact HB.out)⟩
                      · rw [if_neg c23] at H
                        have c23b0 : (t164.toList == (a0.extract 0 ((ji20) : Int).toNat).toList) = false := beq_eq_false_iff_ne.mpr c23
                        have c23b1 : (t164.toList != (a0.extract 0 ((ji20) : Int).toNat).toList) = true := bne_iff_ne.mpr c23
                        simp only [Option.some.injEq, Prod.mk.injEq] at H
                        obtain ⟨rfl, rfl, rfl⟩ := H
                        have p10 : 0 ≤ (0 : Int) := (by omega)
                        have q10 : 0 < a0.size := (by have : (0 : Int) < (a0.size : Int) := of_decide_eq_true (by first | (with_reducible assumption) | assumption); omega)
                        have hx10 : ∀ h : 0 < a0.size, ((a0[0]'h).toNat : Int) = bt a0 0 := bt_at a0 0
                        clear p10
                        have qi10 : (0 < (a0.size : Int)) = True := eq_true (of_decide_eq_true (by first | (with_reducible assumption) | assumption))
                        replace q10 := eq_true q10
                        try go_wp2_with (first | ((with_reducible refine gate_callee (f := 19) rfl ?_); refine goesL_ (some 31) rfl rfl Try.func19 (by kernel_rfl) rfl #[.string (a0.extract 1 ((ji20) : Int).toNat)] rfl (by (try simp only [List.map_toArray, List.map_cons, List.map_nil]); first | done | (simp only [hji20]; rfl) | rfl | (simp only [List.length_drop, List.length_take]; rfl)) ?_; (with_reducible refine (umbelref02_Of.calls kj1 (a0.extract 1 ((ji20) : Int).toNat) t162 _ A15.out).mono ?_); rintro e w33 ⟨rfl, hb⟩; refine ⟨_, rfl, ?_⟩; have n0_ := Aside0.mk (blk_below (g := gb161) (o := .cells #[.string (⟨#[]⟩ : ByteArray), .int .i64 0, .bool false] 31 (0, 0)) (by (with_reducible repeat (first | refine blk_drewN ?_ _ | refine blk_drew ?_ | refine blk_alloc ?_ _)); exact BK161.out) hb); have n1_ := Aside0.mk (below_step (by repeat (first | (with_reducible first | exact HB.out | apply below_alloc | apply pw_below_drewN | apply below_drew1 | refine below_set ?_ GE161.out) | exact HB.out)) hb); clear BK161; clear HB; have BK161 := n0_; have HB := n1_; clear n0_ n1_; (try clear hb); (try clear hb2); (try clear hk); (try clear hi)) | ((with_reducible refine gate_dst (N := 6) rfl ?_); refine box_event ?hg (N := 6) ?hd (cs := #[.string (⟨#[]⟩ : ByteArray), .int .i64 0, .bool false]) (t := 31) ?hr ?_; (case hd => rfl); (case hg => rfl); (case hr => first | (go_simp; done) | (go_simp; rfl)); intro gb163 hg w34 hbox hb; have n0_ := Aside0.mk (blk_below (g := gb161) (o := .cells #[.string (⟨#[]⟩ : ByteArray), .int .i64 0, .bool false] 31 (0, 0)) (by (with_reducible repeat (first | refine blk_drewN ?_ _ | refine blk_drew ?_ | refine blk_alloc ?_ _)); exact BK161.out) hb); have n1_ := Aside0.mk (below_step (by repeat (first | (with_reducible first | exact HB.out | apply below_alloc | apply pw_below_drewN | apply below_drew1 | refine below_set ?_ GE161.out) | exact HB.out)) hb); have n2_ := Aside0.mk (hbox); have n3_ := Aside0.mk ((by rw [hg]; exact (below_size (by repeat (first | (with_reducible first | exact HB.out | apply below_alloc | apply pw_below_drewN | apply below_drew1 | refine below_set ?_ GE161.out) | exact HB.out))) : w.heap.size ≤ gb163)); have n4_ := Aside0.mk ((by rw [hg]; exact (below_size (by repeat (first | (with_reducible first | exact HB.out | apply below_alloc | apply pw_below_drewN | apply below_drew1 | refine below_set ?_ GE161.out) | exact HB.out))) : w.heap.size ≤ gb163)); have n5_ := Aside0.mk ((by rw [hg]; exact Nat.ne_of_lt (blk_lt (g := gb161) (o := .cells #[.string (⟨#[]⟩ : ByteArray), .int .i64 0, .bool false] 31 (0, 0)) (by (with_reducible repeat (first | refine blk_drewN ?_ _ | refine blk_drew ?_ | refine blk_alloc ?_ _)); exact BK161.out)) : gb161 ≠ gb163)); have n6_ := Aside0.mk ((by rw [hg]; exact Nat.ne_of_gt (blk_lt (g := gb161) (o := .cells #[.string (⟨#[]⟩ : ByteArray), .int .i64 0, .bool false] 31 (0, 0)) (by (with_reducible repeat (first | refine blk_drewN ?_ _ | refine blk_drew ?_ | refine blk_alloc ?_ _)); exact BK161.out)) : gb163 ≠ gb161)); clear BK161; clear HB; have BK161 := n0_; have HB := n1_; have BK163 := n2_; have GW163 := n3_; have GE163 := n4_; have NB161_163 := n5_; have NB163_161 := n6_; clear n0_ n1_ n2_ n3_ n4_ n5_ n6_; clear hb hbox hg; have hnb35 := NB163_161.out; have hnc35 := NB161_163.out; have hcz36_0 : w34.cell? ⟨gb163, 0, none⟩ = some (.string (⟨#[]⟩ : ByteArray)) := (blk_cell BK163.out 0).trans rfl; have hcz36_1 : w34.cell? ⟨gb163, 1, none⟩ = some (.int .i64 0) := (blk_cell BK163.out 1).trans rfl; have hcz36_2 : w34.cell? ⟨gb163, 2, none⟩ = some (.bool false) := (blk_cell BK163.out 2).trans rfl; have hfz36_0 := blk_frozen BK163.out 0; have hfz36_1 := blk_frozen BK163.out 1; have hfz36_2 := blk_frozen BK163.out 2))
                        have n0_ : Aside0 ((((w34.setCell ⟨gb163, 0, none⟩ (.string (t162.extract 0 ((ji16) : Int).toNat))).setCell ⟨gb163, 1, none⟩ (.int .i64 ji20)).setCell ⟨gb163, 2, none⟩ (.bool true)).heap[gb161]? = some (.cells #[.string (⟨#[]⟩ : ByteArray), .int .i64 0, .bool false] 31 (0, 0))) := ⟨by (with_reducible repeat (first | refine blk_drewN ?_ _ | refine blk_drew ?_ | refine blk_alloc ?_ _)); refine blk_far ?_ NB161_163.out _; (with_reducible repeat (first | refine blk_drewN ?_ _ | refine blk_drew ?_ | refine blk_alloc ?_ _)); refine blk_far ?_ NB161_163.out _; (with_reducible repeat (first | refine blk_drewN ?_ _ | refine blk_drew ?_ | refine blk_alloc ?_ _)); refine blk_far ?_ NB161_163.out _; (with_reducible repeat (first | refine blk_drewN ?_ _ | refine blk_drew ?_ | refine blk_alloc ?_ _)); exact BK161.out⟩
                        have n1_ : Aside0 ((((w34.setCell ⟨gb163, 0, none⟩ (.string (t162.extract 0 ((ji16) : Int).toNat))).setCell ⟨gb163, 1, none⟩ (.int .i64 ji20)).setCell ⟨gb163, 2, none⟩ (.bool true)).heap[gb163]? = some (.cells #[.string (t162.extract 0 ((ji16) : Int).toNat), .int .i64 ji20, .bool true] 31 (0, 0))) := ⟨by (with_reducible repeat (first | refine blk_drewN ?_ _ | refine blk_drew ?_ | refine blk_alloc ?_ _)); refine blk_put (cs := #[.string (t162.extract 0 ((ji16) : Int).toNat), .int .i64 ji20, .bool false]) ?_ 2 _ rfl; (with_reducible repeat (first | refine blk_drewN ?_ _ | refine blk_drew ?_ | refine blk_alloc ?_ _)); refine blk_put (cs := #[.string (t162.extract 0 ((ji16) : Int).toNat), .int .i64 0, .bool false]) ?_ 1 _ rfl; (with_reducible repeat (first | refine blk_drewN ?_ _ | refine blk_drew ?_ | refine blk_alloc ?_ _)); refine blk_put (cs := #[.string (⟨#[]⟩ : ByteArray), .int .i64 0, .bool false]) ?_ 0 _ rfl; (with_reducible repeat (first | refine blk_drewN ?_ _ | refine blk_drew ?_ | refine blk_alloc ?_ _)); exact BK163.out⟩
                        have n2_ : Aside0 (Below w.heap.size w (((w34.setCell ⟨gb163, 0, none⟩ (.string (t162.extract 0 ((ji16) : Int).toNat))).setCell ⟨gb163, 1, none⟩ (.int .i64 ji20)).setCell ⟨gb163, 2, none⟩ (.bool true))) := ⟨by repeat (first | (with_reducible first | exact HB.out | apply below_alloc | apply pw_below_drewN | apply below_drew1 | refine below_set ?_ GE161.out | refine below_set ?_ GE163.out) | exact HB.out)⟩
                        (try clear BK161)
                        (try clear BK163)
                        (try clear HB)
                        generalize (((w34.setCell ⟨gb163, 0, none⟩ (.string (t162.extract 0 ((ji16) : Int).toNat))).setCell ⟨gb163, 1, none⟩ (.int .i64 ji20)).setCell ⟨gb163, 2, none⟩ (.bool true)) = w37 at n0_ n1_ n2_ ⊢
                        have BK161 := n0_
                        have BK163 := n1_
                        have HB := n2_
                        clear n0_ n1_ n2_
                        have n0_ := Aside0.mk (blk_drew BK161.out)
                        have n1_ := Aside0.mk (blk_drew BK163.out)
                        have n2_ := Aside0.mk (below_drew1 HB.out)
                        clear BK161
                        clear BK163
                        clear HB
                        have BK161 := n0_
                        have BK163 := n1_
                        have HB := n2_
                        clear n0_ n1_ n2_
                        refine start_ (n := 8) (S := fun w' => w'.cell? ⟨gb163, 0, none⟩ = some (.string (t162.extract 0 ((ji16) : Int).toNat)) ∧ w'.cell? ⟨gb163, 1, none⟩ = some (.int .i64 ji20) ∧ w'.cell? ⟨gb163, 2, none⟩ = some (.bool true)) (ds := []) #[false, false, false, false, false, false, false, false] (by kernel_rfl) rfl rfl ⟨(blk_cell BK163.out 0).trans rfl, (blk_cell BK163.out 1).trans rfl, (blk_cell BK163.out 2).trans rfl⟩ (fun hHeld => ?_); refine with_tabW umbelref02_Unpack.tab9 umbelref02_Unpack.bits9 (fun HT_ HW_ => ?_)
                        generalize w37.drew = w38 at BK161 BK163 HB hHeld ⊢
                        refine pure_ (i := 0) (N := some 37) (v := ?_) (a' := ?_) #[true, false, false, false, false, false, false, false] rfl rfl (any_of HT_.out (by kernel_rfl)) (fun _ _ _ h => h) (Or.inl ⟨by rfl, ?_⟩) ?_ ?_
                        rotate_left
                        · intro w'
                          go_simp
                          with_reducible rfl
                        rotate_left
                        · simp only [Act.put, List.setIfInBounds_toArray, List.set_cons_zero, List.set_cons_succ, i64_w, i32_w]
                          rfl
                        refine pure_ (i := 4) (N := some 41) (v := ?_) (a' := ?_) #[true, false, false, false, true, false, false, false] rfl rfl (any_of HT_.out (by kernel_rfl)) (fun _ _ _ h => h) (Or.inl ⟨by rfl, ?_⟩) ?_ ?_
                        rotate_left
                        · intro w'
                          go_simp
                          with_reducible rfl
                        rotate_left
                        · simp only [Act.put, List.setIfInBounds_toArray, List.set_cons_zero, List.set_cons_succ, i64_w, i32_w]
                          rfl
                        refine pure_ (i := 5) (N := some 42) (v := ?_) (a' := ?_) #[true, false, false, false, true, true, false, false] rfl rfl (any_of HT_.out (by kernel_rfl)) (fun _ _ _ h => h) (Or.inl ⟨by rfl, ?_⟩) ?_ ?_
                        rotate_left
                        · intro w'
                          go_simp
                          with_reducible rfl
                        rotate_left
                        · simp only [Act.put, List.setIfInBounds_toArray, List.set_cons_zero, List.set_cons_succ, i64_w, i32_w]
                          rfl
                        refine pure_ (i := 6) (N := some 43) (v := ?_) (a' := ?_) #[true, false, false, false, true, true, true, false] rfl rfl (any_of HT_.out (by kernel_rfl)) (fun _ _ _ h => h) (Or.inl ⟨by rfl, ?_⟩) ?_ ?_
                        rotate_left
                        · intro w'
                          go_simp
                          with_reducible rfl
                        rotate_left
                        · simp only [Act.put, List.setIfInBounds_toArray, List.set_cons_zero, List.set_cons_succ, i64_w, i32_w]
                          rfl
                        refine take_ (i := 1) (N := some 38) (v := ?_) (a' := ?_) #[true, true, false, false, true, true, true, false] rfl rfl (take_ofW HT_.out HW_.out (by kernel_rfl)) (fun _ _ _ h => h) (Or.inl ⟨by rfl, ?_⟩) hHeld ?_ ?_
                        rotate_left
                        · rintro w' ⟨s0, s1, s2⟩
                          go_simp
                          with_reducible rfl
                        rotate_left
                        · simp only [Act.put, List.setIfInBounds_toArray, List.set_cons_zero, List.set_cons_succ, i64_w, i32_w]
                          rfl
                        refine one_ (i := 2) (N := some 39) #[true, true, true, false, true, true, true, false] rfl rfl (one_of HT_.out (by kernel_rfl)) (by decide) (fun K hK => ?_)
                        refine goes_ Try.func16 (by kernel_rfl) rfl #[.string (t162.extract 0 ((ji16) : Int).toNat)] (by rfl) rfl rfl (by (try simp only [List.map_toArray, List.map_cons, List.map_nil]); first | done | (simp only [hji16]; rfl) | rfl | (simp only [List.length_drop, List.length_take]; rfl)) ?_
                        with_reducible refine (umbelref02_Pack.calls kj1 (t162.extract 0 ((ji16) : Int).toNat) t164 t165 _ A19.out).mono ?_
                        rintro e w39 ⟨rfl, hb⟩
                        refine ⟨_, rfl, ?_⟩
                        have n0_ := Aside0.mk (blk_below (g := gb161) (o := .cells #[.string (⟨#[]⟩ : ByteArray), .int .i64 0, .bool false] 31 (0, 0)) (by (with_reducible repeat (first | refine blk_drewN ?_ _ | refine blk_drew ?_ | refine blk_alloc ?_ _)); exact BK161.out) hb)
                        have n1_ := Aside0.mk (blk_below (g := gb163) (o := .cells #[.string (t162.extract 0 ((ji16) : Int).toNat), .int .i64 ji20, .bool true] 31 (0, 0)) (by (with_reducible repeat (first | refine blk_drewN ?_ _ | refine blk_drew ?_ | refine blk_alloc ?_ _)); exact BK163.out) hb)
                        have n2_ := Aside0.mk (below_step (by repeat (first | (with_reducible first | exact HB.out | apply below_alloc | apply pw_below_drewN | apply below_drew1 | refine below_set ?_ GE161.out | refine below_set ?_ GE163.out) | exact HB.out)) hb)
                        clear BK161
                        clear BK163
                        clear HB
                        have BK161 := n0_
                        have BK163 := n1_
                        have HB := n2_
                        clear n0_ n1_ n2_
                        (try clear hb)
                        (try clear hb2)
                        (try clear hk)
                        (try clear hi)
                        refine hK.out _ _ ⟨(blk_cell BK163.out 0).trans rfl, (blk_cell BK163.out 1).trans rfl, (blk_cell BK163.out 2).trans rfl⟩ (fun hHeld => ?_)
                        clear hK K
                        refine norm_ (a' := ?_) ?_ ?_
                        rotate_left
                        · show Act.put _ (some 39) _ = _
                          simp only [Act.put, List.setIfInBounds_toArray, List.set_cons_zero, List.set_cons_succ, i64_w, i32_w]
                          rfl
                        refine pure_ (i := 3) (N := some 40) (v := ?_) (a' := ?_) #[true, true, true, true, true, true, true, false] rfl rfl (any_of HT_.out (by kernel_rfl)) (fun _ _ _ h => h) (Or.inl ⟨by rfl, ?_⟩) ?_ ?_
                        rotate_left
                        · intro w'
                          go_simp
                          with_reducible rfl
                        rotate_left
                        · simp only [Act.put, List.setIfInBounds_toArray, List.set_cons_zero, List.set_cons_succ, i64_w, i32_w]
                          rfl
                        refine pure_ (i := 7) (N := some 44) (v := ?_) (a' := ?_) #[true, true, true, true, true, true, true, true] rfl rfl (any_of HT_.out (by kernel_rfl)) (fun _ _ _ h => h) (Or.inl ⟨by rfl, ?_⟩) ?_ ?_
                        rotate_left
                        · intro w'
                          go_simp
                          with_reducible rfl
                        rotate_left
                        · simp only [Act.put, List.setIfInBounds_toArray, List.set_cons_zero, List.set_cons_succ, i64_w, i32_w]
                          rfl
                        refine done_ (done_of HT_.out (by kernel_rfl)) ?_
                        have hcz40_0 : w39.cell? ⟨gb161, 0, none⟩ = some (.string (⟨#[]⟩ : ByteArray)) := (blk_cell BK161.out 0).trans rfl
                        have hcz40_1 : w39.cell? ⟨gb161, 1, none⟩ = some (.int .i64 0) := (blk_cell BK161.out 1).trans rfl
                        have hcz40_2 : w39.cell? ⟨gb161, 2, none⟩ = some (.bool false) := (blk_cell BK161.out 2).trans rfl
                        have hfz40_0 := blk_frozen BK161.out 0
                        have hfz40_1 := blk_frozen BK161.out 1
                        have hfz40_2 := blk_frozen BK161.out 2
                        try go_wp2
                        refine bodyPost_ret (results_cell_row rfl _ _ gb161 31 #[.string (⟨#[]⟩ : ByteArray), .int .i64 0, .bool false] (0, 0) _ rfl (by (with_reducible repeat (first | refine blk_drewN ?_ _ | refine blk_drew ?_ | refine blk_alloc ?_ _)); refine blk_put (cs := #[.string (⟨#[]⟩ : ByteArray), .int .i64 0, .bool false]) ?_ 2 _ rfl; (with_reducible repeat (first | refine blk_drewN ?_ _ | refine blk_drew ?_ | refine blk_alloc ?_ _)); refine blk_put (cs := #[.string (⟨#[]⟩ : ByteArray), .int .i64 0, .bool false]) ?_ 1 _ rfl; (with_reducible repeat (first | refine blk_drewN ?_ _ | refine blk_drew ?_ | refine blk_alloc ?_ _)); refine blk_put (cs := #[.string (⟨#[]⟩ : ByteArray), .int .i64 0, .bool false]) ?_ 0 _ rfl; (with_reducible repeat (first | refine blk_drewN ?_ _ | refine blk_drew ?_ | refine blk_alloc ?_ _)); exact BK161.out) Try.underlying31 rfl (by kernel_rfl)) rfl ?_
                        exact ⟨by first | rfl | (simp [errW_none, errW_some] <;> rfl) | (simp only [← hji16, ← hji20]; first | rfl | (simp [errW_none, errW_some] <;> rfl)) | (simp [*, errW_none, errW_some] <;> rfl), by repeat (first | (with_reducible first | exact HB.out | apply below_alloc | apply pw_below_drewN | apply below_drew1 | refine below_set ?_ GE161.out | refine below_set ?_ GE163.out) | exact HB.out)⟩
                    · rw [if_neg c21] at H
                      exact absurd H (by simp)
                  · rw [if_neg c18] at H
                    exact absurd H (by simp)
                · rw [if_neg c17] at H
                  exact absurd H (by simp)
              · rw [if_neg c14] at H
                exact absurd H (by simp)
            · rw [if_neg c13] at H
              exact absurd H (by simp)
        · rw [if_neg c9] at H
          exact absurd H (by simp)

/-! ### umbelref02_Common: function 21 -/
def umbelref02_Common.l0 : Nat → ByteArray → ByteArray → Int → Option (Int)
  | 0, _, _, _ => none
  | k + 1, x0, x1, x5 => if x5 < (x0.size : Int) then (if x5 < (x1.size : Int) then (if 0 ≤ x5 then (if (bt x0 x5) = (bt x1 x5) then (umbelref02_Common.l0 k x0 x1 (wrap64 (x5 + 1))) else (some x5)) else (none)) else (some x5)) else (some x5)
def umbelref02_Common.f (k : Nat) (a0 : ByteArray) (a1 : ByteArray) : Option (Int) := umbelref02_Common.l0 k a0 a1 0
theorem umbelref02_Common.mono_l : ∀ k, (∀ y0 y1 y2, LeO (umbelref02_Common.l0 k y0 y1 y2) (umbelref02_Common.l0 (k + 1) y0 y1 y2))
  | 0 => fun _ _ _ r h => by simp [umbelref02_Common.l0] at h
  | k + 1 => by
    have ih0 := umbelref02_Common.mono_l k
    · intro y0 y1 y2
      unfold umbelref02_Common.l0
      repeat' first
      | (with_reducible exact ih0 _ _ _)
      | (with_reducible exact LeO.refl _)
      | (with_reducible exact LeO.none _)
      | (with_reducible refine LeO.ite ?_ ?_)
      | (with_reducible refine LeO.bind ?_ (fun _ => ?_))
      | exact ih0 _ _ _
      | exact LeO.none _
      | refine LeO.ite ?_ ?_
      | refine LeO.bind ?_ (fun _ => ?_)
theorem umbelref02_Common.mono : ∀ a0 a1 k, LeO (umbelref02_Common.f k a0 a1) (umbelref02_Common.f (k + 1) a0 a1) := by
  intro a0 a1 k
  have ih0 := umbelref02_Common.mono_l k
  unfold umbelref02_Common.f
  repeat' first
      | (with_reducible exact ih0 _ _ _)
      | (with_reducible exact LeO.refl _)
      | (with_reducible exact LeO.none _)
      | (with_reducible refine LeO.ite ?_ ?_)
      | (with_reducible refine LeO.bind ?_ (fun _ => ?_))
      | exact ih0 _ _ _
      | exact LeO.none _
      | refine LeO.ite ?_ ?_
      | refine LeO.bind ?_ (fun _ => ?_)
set_option maxHeartbeats 8000000 in
set_option maxRecDepth 100000 in
theorem umbelref02_Common.calls (k : Nat) (a0 : ByteArray) (a1 : ByteArray) (r : Int) (w : World) (h : umbelref02_Common.f k a0 a1 = some r) :
    Calls Try.prog 21 #[.string a0, .string a1] w fun e w' => e = .returned (.int .i64 r) ∧ Drawn0 w w' := by
  have H : (umbelref02_Common.l0 k a0 a1 0) = some r := h
  clear h
  have H' := Aside0.mk H
  clear H
  go_enter Try.func21, Try.ntmps21
  go_wp2
  repeat (go_quiet (fail); try go_wp2)
  go_loopg [5] k (fun kq v5 w' => ∃ (x5_1 : Int), v5 = .int .i64 x5_1 ∧ Aside0 (umbelref02_Common.l0 kq a0 a1 x5_1 = some r) ∧ Aside0 (kq ≤ k) ∧ Drawn0 w w')
  case atStart => exact ⟨(0), (by first | rfl | (simp; done) | (simp [*]; done)), H', ⟨Nat.le_refl _⟩, by repeat (first | exact Drawn0.refl _ | apply Drawn0.step)⟩
  case round =>
    clear H'
    try clear c2
    try clear p2
    obtain ⟨x5_1, rfl, HA, HK1, ⟨m1, rfl⟩⟩ := hrel
    cases gk with
    | zero => exact absurd HA.out (by simp [umbelref02_Common.l0])
    | succ k1 =>
      have H := HA.out
      clear HA
      simp only [umbelref02_Common.l0] at H
      by_cases c3 : x5_1 < (a0.size : Int)
      · rw [if_pos c3] at H
        have c3b0 : decide (x5_1 < (a0.size : Int)) = true := decide_eq_true c3
        clear c3
        by_cases c4 : x5_1 < (a1.size : Int)
        · rw [if_pos c4] at H
          have c4b0 : decide (x5_1 < (a1.size : Int)) = true := decide_eq_true c4
          clear c4
          by_cases c5 : 0 ≤ x5_1
          · rw [if_pos c5] at H
            have c5b0 : decide (0 ≤ x5_1) = true := decide_eq_true c5
            clear c5
            by_cases c8 : (bt a0 x5_1) = (bt a1 x5_1)
            · rw [if_pos c8] at H
              have c8b0 : ((bt a0 x5_1) == (bt a1 x5_1)) = true := beq_iff_eq.mpr c8
              have c8b1 : ((bt a0 x5_1) != (bt a1 x5_1)) = false := bne_eq_false_iff_eq.mpr c8
              clear c8
              have H' := Aside0.mk H
              clear H
              have p6 : 0 ≤ (x5_1 : Int) := of_decide_eq_true (by first | (with_reducible assumption) | assumption)
              have q6 : x5_1 < (a0.size : Int) := of_decide_eq_true (by first | (with_reducible assumption) | assumption)
              have hx6 := bt_at a0 x5_1
              replace p6 := eq_true p6
              replace q6 := eq_true q6
              have p7 : 0 ≤ (x5_1 : Int) := of_decide_eq_true (by first | (with_reducible assumption) | assumption)
              have q7 : x5_1 < (a1.size : Int) := of_decide_eq_true (by first | (with_reducible assumption) | assumption)
              have hx7 := bt_at a1 x5_1
              replace p7 := eq_true p7
              replace q7 := eq_true q7
              go_wp2
              repeat (go_quiet (fail); try go_wp2)
              go_roundg k1
              case measure => have := HK1.out; omega
              case rel => exact ⟨(wrap64 (x5_1 + 1)), (by first | rfl | (simp; done) | (simp [*]; done)), H', ⟨by have := HK1.out; omega⟩, by repeat (first | exact Drawn0.refl _ | apply Drawn0.step)⟩
            · rw [if_neg c8] at H
              have c8b0 : ((bt a0 x5_1) == (bt a1 x5_1)) = false := beq_eq_false_iff_ne.mpr c8
              have c8b1 : ((bt a0 x5_1) != (bt a1 x5_1)) = true := bne_iff_ne.mpr c8
              obtain rfl := Option.some.inj H
              have p6 : 0 ≤ (x5_1 : Int) := of_decide_eq_true (by first | (with_reducible assumption) | assumption)
              have q6 : x5_1 < (a0.size : Int) := of_decide_eq_true (by first | (with_reducible assumption) | assumption)
              have hx6 := bt_at a0 x5_1
              replace p6 := eq_true p6
              replace q6 := eq_true q6
              have p7 : 0 ≤ (x5_1 : Int) := of_decide_eq_true (by first | (with_reducible assumption) | assumption)
              have q7 : x5_1 < (a1.size : Int) := of_decide_eq_true (by first | (with_reducible assumption) | assumption)
              have hx7 := bt_at a1 x5_1
              replace p7 := eq_true p7
              replace q7 := eq_true q7
              go_wp2
              repeat (go_quiet (fail); try go_wp2)
              go_ret
              exact ⟨by first | rfl | (simp; done) | (simp [*]; done), by repeat (first | exact Drawn0.refl _ | apply Drawn0.step)⟩
          · rw [if_neg c5] at H
            exact absurd H (by simp)
        · rw [if_neg c4] at H
          have c4b0 : decide (x5_1 < (a1.size : Int)) = false := decide_eq_false c4
          clear c4
          obtain rfl := Option.some.inj H
          go_wp2
          repeat (go_quiet (fail); try go_wp2)
          go_ret
          exact ⟨by first | rfl | (simp; done) | (simp [*]; done), by repeat (first | exact Drawn0.refl _ | apply Drawn0.step)⟩
      · rw [if_neg c3] at H
        have c3b0 : decide (x5_1 < (a0.size : Int)) = false := decide_eq_false c3
        clear c3
        obtain rfl := Option.some.inj H
        go_wp2
        repeat (go_quiet (fail); try go_wp2)
        go_ret
        exact ⟨by first | rfl | (simp; done) | (simp [*]; done), by repeat (first | exact Drawn0.refl _ | apply Drawn0.step)⟩

end Go.Proofs.Ytbgojedhciimaaa.PNib
