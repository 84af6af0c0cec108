-- Written by a program of this session for this seat. Not trusted: Lean checks it.
import Derived.Test.YtiajgmocmnjijaaDoorPSupx0
import Derived.Test.YtiajgmocmnjijaaDoorPSupx1
import Derived.Test.YtiajgmocmnjijaaDoorPSupx4
namespace Go.Proofs.YtiajgmocmnjijaaDoor.PSup
open Go.RowKit Go.Proofs.YtiajgmocmnjijaaDoorW.PrintWords Go.Proofs.YtiajgmocmnjijaaDoorW.PrintLast Go.Proofs.YtiajgmocmnjijaaDoorW.PrintMore
attribute [local go_sem] max2_int min2_int max_two min_two max_three min_three max_four min_four   -- for this text's walks alone
set_option linter.unusedVariables false
set_option linter.unusedSimpArgs false
open Go.Proofs.YtiajgmocmnjijaaDoor.HW Go.Proofs.YtiajgmocmnjijaaDoor.SumH

attribute [local go_sem high] eqA43
/-! ### umbellaw06_Fill: function 26 -/
def umbellaw06_Fill.l0 : Nat → Int → List Int → Int → Option (ByteArray)
  | 0, _, _, _ => none
  | k + 1, x0, x3, x4 => if x4 < (x3.length : Int) then (if 0 ≤ x4 then (umbellaw06_Fill.l0 k x0 (x3.set (x4 : Int).toNat x0) (wrap64 (x4 + 1))) else (none)) else (some (strOfNums x3))
def umbellaw06_Fill.f (k : Nat) (a0 : Int) : Option (ByteArray) := if 256 ≤ 281474976710656 then (umbellaw06_Fill.l0 k a0 (List.replicate 256 0) 0) else (none)
set_option maxHeartbeats 8000000 in
set_option maxRecDepth 100000 in
theorem umbellaw06_Fill.calls (k : Nat) (a0 : Int) (r : ByteArray) (w : World) (h : umbellaw06_Fill.f k a0 = some r) :
    Calls Tryd.prog 26 #[.int .u8 a0] w fun e w' => e = .returned (.string r) ∧ Below w.heap.size w w' := by
  have HB := Aside0.mk (Below.refl w.heap.size w)
  have H : (if 256 ≤ 281474976710656 then (umbellaw06_Fill.l0 k a0 (List.replicate 256 0) 0) else (none)) = some r := h
  clear h
  by_cases c2 : 256 ≤ 281474976710656
  · rw [if_pos c2] at H
    have c2b0 := eq_true c2
    have c2b1 : decide (256 ≤ 281474976710656) = true := decide_eq_true c2
    clear c2
    obtain ⟨y161, hy161⟩ : ∃ y_ : List Int, y_ = (List.replicate 256 0) := ⟨_, rfl⟩
    replace H : (umbellaw06_Fill.l0 k a0 y161 0) = some r := by first | (rw [hy161]; with_reducible exact H) | (have H2_ := (Option.bind_some _ _).symm.trans H; rw [hy161]; with_reducible exact H2_) | (have H2_ := (Option.bind_some _ _).symm.trans H; with_reducible exact H2_) | with_reducible exact H | (rw [hy161]; exact H) | exact H
    have Ny161 := Aside0.mk hy161
    clear hy161
    have H' := Aside0.mk H
    clear H
    go_enter Tryd.func26, Tryd.ntmps26
    go_wp2_with (first | ((with_reducible refine gate_dst (N := 5) rfl ?_); refine Kd.R_make (Kd.int .u8) _ 5 rfl (N := 5) rfl 39 _ _ rfl 256 rfl rfl Tryd.underlying39 (.int .u8 0) 1 info5 rfl (by decide) (by omega) 0 (ok := fun _ => True) (okp := fun _ => True) rfl (fun _ hk => hk) trivial (by omega) (by omega) (Below.refl _ _) (Nat.le_refl _) ?_; intro v162 w3 ho4 hb hg_ hnew_; clear hg_ hnew_; (first | rw [← Ny161.out] at ho4 | (simp only [Int.reduceToNat] at ho4; rw [← Ny161.out] at ho4)); have n0_ := Aside0.mk (Kd.R_lower ho4 (below_size (by repeat (first | (with_reducible first | exact HB.out | apply below_alloc | apply pw_below_drewN | apply below_drew1) | exact HB.out)))); have n1_ := Aside0.mk (below_step (by repeat (first | (with_reducible first | exact HB.out | apply below_alloc | apply pw_below_drewN | apply below_drew1) | exact HB.out)) hb); clear HB; have HO163 := n0_; have HB := n1_; clear n0_ n1_; clear hb ho4))
    go_loopg [4] k (fun kq v4 w' => ∃ (x3_1 : List Int) (x4_1 : Int), v4 = .int .i64 x4_1 ∧ Aside0 (umbellaw06_Fill.l0 kq a0 x3_1 x4_1 = some r) ∧ Aside0 (kq ≤ k) ∧ Aside0 (Kd.R (Kd.int .u8) 5 w' w.heap.size (fun _ => True) v162 x3_1) ∧ Aside0 (Below w.heap.size w w'))
    case atStart => exact ⟨(y161), (0), (by first | rfl | (simp; done) | (simp [*]; done)), H', ⟨Nat.le_refl _⟩, ⟨by (with_reducible repeat (first | apply Kd.R_alloc | apply Kd.R_drewN | apply Kd.R_drew)); exact HO163.out⟩, ⟨by repeat (first | (with_reducible first | exact HB.out | apply below_alloc | apply pw_below_drewN | apply below_drew1) | exact HB.out)⟩⟩
    case round =>
      clear H'
      try clear c2
      try clear c2b0
      try clear c2b1
      try clear p2
      obtain ⟨x3_1, x4_1, rfl, HA, HK1, HO_3, HB⟩ := hrel
      cases gk with
      | zero => exact absurd HA.out (by simp [umbellaw06_Fill.l0])
      | succ k1 =>
        have H := HA.out
        clear HA
        simp only [umbellaw06_Fill.l0] at H
        by_cases c5 : x4_1 < (x3_1.length : Int)
        · rw [if_pos c5] at H
          have c5b0 : decide (x4_1 < (x3_1.length : Int)) = true := decide_eq_true c5
          clear c5
          by_cases c6 : 0 ≤ x4_1
          · rw [if_pos c6] at H
            have c6b0 : decide (0 ≤ x4_1) = true := decide_eq_true c6
            clear c6
            obtain ⟨y164, hy164⟩ : ∃ y_ : List Int, y_ = (x3_1.set (x4_1 : Int).toNat a0) := ⟨_, rfl⟩
            replace H : (umbellaw06_Fill.l0 k1 a0 y164 (wrap64 (x4_1 + 1))) = some r := by first | (rw [hy164]; with_reducible exact H) | (have H2_ := (Option.bind_some _ _).symm.trans H; rw [hy164]; with_reducible exact H2_) | (have H2_ := (Option.bind_some _ _).symm.trans H; with_reducible exact H2_) | with_reducible exact H | (rw [hy164]; exact H) | exact H
            have Ny164 := Aside0.mk hy164
            clear hy164
            have H' := Aside0.mk H
            clear H
            obtain ⟨Ao8, co8, eo8⟩ := Kd.R_slice HO_3.out
            subst eo8
            have p7 : 0 ≤ (x4_1 : Int) := of_decide_eq_true (by first | (with_reducible assumption) | assumption)
            have q7 : (x4_1 : Int) < ((x3_1.length : Int) : Int) := of_decide_eq_true (by first | (with_reducible assumption) | assumption)
            obtain ⟨go7, co7, eo7, gb7, gl7, cl7, HG7⟩ := Kd.R_form HO_3.out (by omega)
            (first | cases eo7 | (injection eo7 with ea_ en_ ec_; (first | subst ea_ | (injection ea_ with ea_; subst ea_)); subst ec_; clear en_))
            have GB7 := Aside0.mk gb7
            have GG7 := Aside0.mk HG7
            clear gb7 gl7 HG7
            obtain ⟨hx7_0, hf7_0⟩ := Kd.R_celln 0 HO_3.out (x4_1 : Int) p7 q7
            replace p7 := eq_true p7
            replace q7 := eq_true q7
            have HP9 := Kd.R_putg HO_3.out (x4_1 : Int) a0
            go_wp2_with (first | ((with_reducible refine gate_store (t := 5) (p := 15) rfl ?_); refine store_event (t := 5) (p := 15) (v := ?vo_w10) (w1 := (wr.setCell ⟨go7, (x4_1 : Int).toNat, none⟩ (.int .u8 a0))) ?hg ?ho ?hn ?hr ?_; (case ho => rfl); (case hg => rfl); (case hn => rfl); (case hr => first | (go_simp; done) | (go_simp; rfl)); intro w10 hw; have hg : wr.grownBy w10 (some go7) := (by rw [hw]; exact HP9.2); have hp_ : Kd.R (Kd.int .u8) 5 w10 w.heap.size (fun _ => True) (.slice (some ⟨go7, 0, none⟩) x3_1.length co8) y164 := (by rw [hw, Ny164.out]; exact HP9.1); clear HP9; have n0_ := Aside0.mk (hp_); have n1_ := Aside0.mk ((by rw [hw]; exact below_set (HB.out) GB7.out : Below w.heap.size w w10)); clear HO_3; clear HB; have HO_3 := n0_; have HB := n1_; clear n0_ n1_; clear hg hw hp_))
            go_roundg k1
            case measure => have := HK1.out; omega
            case rel => exact ⟨(y164), (wrap64 (x4_1 + 1)), (by first | rfl | (simp; done) | (simp [*]; done)), H', ⟨by have := HK1.out; omega⟩, ⟨by (with_reducible repeat (first | apply Kd.R_alloc | apply Kd.R_drewN | apply Kd.R_drew)); exact HO_3.out⟩, ⟨by repeat (first | (with_reducible first | exact HB.out | apply below_alloc | apply pw_below_drewN | apply below_drew1) | exact HB.out)⟩⟩
          · rw [if_neg c6] at H
            exact absurd H (by simp)
        · rw [if_neg c5] at H
          have c5b0 : decide (x4_1 < (x3_1.length : Int)) = false := decide_eq_false c5
          clear c5
          obtain rfl := Option.some.inj H
          obtain ⟨Ao11, co11, eo11⟩ := Kd.R_slice HO_3.out
          subst eo11
          have hcv12 := own_string (P := Tryd.prog) Tryd.underlying39 Tryd.underlying5 Tryd.underlying9 (Kd.own_of_R HO_3.out)
          go_wp2
          go_ret
          exact ⟨by first | rfl | (simp [errW_none, errW_some] <;> rfl) | (simp [*, errW_none, errW_some] <;> rfl), by repeat (first | (with_reducible first | exact HB.out | apply below_alloc | apply pw_below_drewN | apply below_drew1) | exact HB.out)⟩
  · rw [if_neg c2] at H
    exact absurd H (by simp)

-- NOT PRINTED: function 17 (umbellaw23_wakes)

/-! ### umbelref23_Good: function 25 -/
def umbelref23_Good.f (a0_0 : Int) (a0_1 : Int) (a0_2 : Int) (a0_3 : Int) (a0_4 : Int) (a0_5 : Int) : Option (Bool) := some (SupD.rg a0_0 a0_1 a0_2 a0_3 a0_4 a0_5)
theorem umbelref23_Good.calls (a0_0 : Int) (a0_1 : Int) (a0_2 : Int) (a0_3 : Int) (a0_4 : Int) (a0_5 : Int) (r : Bool) (w : World) (h : umbelref23_Good.f a0_0 a0_1 a0_2 a0_3 a0_4 a0_5 = some r) :
    Calls Tryd.prog 25 #[.agg #[.int .i64 a0_0, .int .i64 a0_1, .int .i64 a0_2, .int .i64 a0_3, .int .i64 a0_4, .int .i64 a0_5]] w fun e w' => e = .returned (.bool r) ∧ Below w.heap.size w w' := Option.some.inj h ▸ SupD.rgood_calls a0_0 a0_1 a0_2 a0_3 a0_4 a0_5 w


/-! ### umbelref03_Put: function 32 -/
/-! ### umbelref03_Of: function 33 -/
/-! ### umbelref23_big: function 38 -/
end Go.Proofs.YtiajgmocmnjijaaDoor.PSup
