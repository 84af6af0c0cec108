-- Written by a program of this session for this seat. Not trusted: Lean checks it.
import Derived.Test.YtbphehijikdkjaaDoorPRngx0
namespace Go.Proofs.YtbphehijikdkjaaDoor.PRng
open Go.RowKit Go.Proofs.YtbphehijikdkjaaDoorW.PrintWords Go.Proofs.YtbphehijikdkjaaDoorW.PrintLast Go.Proofs.YtbphehijikdkjaaDoorW.PrintMore
attribute [local go_sem] max2_int min2_int max_two min_two max_three min_three max_four min_four   -- for this text's walks alone
set_option linter.unusedVariables false
set_option linter.unusedSimpArgs false
open Go.Proofs.YtbphehijikdkjaaDoor.HW Go.Proofs.YtbphehijikdkjaaDoor.DgsB

/-! ### umbellaw21_Long: function 19 -/
def umbellaw21_Long.l0 : Nat → List (S49) → Int → Int → Option (Bool)
  | 0, _, _, _ => none
  | k + 1, x0, x3, x4 => if x4 < (x0.length : Int) then (if x3 ≤ 2000 then (if 0 ≤ x4 then (umbellaw21_Long.l0 k x0 (wrap64 (x3 + (1 + (mn (((rd_T49 x0 x4).f0).size : Int) 2000)))) (wrap64 (x4 + 1))) else (none)) else (some (decide (x3 > 2000)))) else (some (decide (x3 > 2000)))
def umbellaw21_Long.f (k : Nat) (l0 : List (S49)) : Option (Bool) := umbellaw21_Long.l0 k l0 0 0
theorem umbellaw21_Long.mono_l : ∀ k, (∀ y0 y1 y2, LeO (umbellaw21_Long.l0 k y0 y1 y2) (umbellaw21_Long.l0 (k + 1) y0 y1 y2))
  | 0 => fun _ _ _ r h => by simp [umbellaw21_Long.l0] at h
  | k + 1 => by
    have ih0 := umbellaw21_Long.mono_l k
    · intro y0 y1 y2
      unfold umbellaw21_Long.l0
      repeat' first
      | (with_reducible exact ih0 _ _ _)
      | (with_reducible exact LeO.refl _)
      | (with_reducible exact LeO.none _)
      | (with_reducible refine LeO.ite ?_ ?_)
      | (with_reducible refine LeO.bind ?_ (fun _ => ?_))
      | exact ih0 _ _ _
      | exact LeO.none _
      | refine LeO.ite ?_ ?_
      | refine LeO.bind ?_ (fun _ => ?_)
theorem umbellaw21_Long.mono : ∀ a0 k, LeO (umbellaw21_Long.f k a0) (umbellaw21_Long.f (k + 1) a0) := by
  intro a0 k
  have ih0 := umbellaw21_Long.mono_l k
  unfold umbellaw21_Long.f
  repeat' first
      | (with_reducible exact ih0 _ _ _)
      | (with_reducible exact LeO.refl _)
      | (with_reducible exact LeO.none _)
      | (with_reducible refine LeO.ite ?_ ?_)
      | (with_reducible refine LeO.bind ?_ (fun _ => ?_))
      | exact ih0 _ _ _
      | exact LeO.none _
      | refine LeO.ite ?_ ?_
      | refine LeO.bind ?_ (fun _ => ?_)
set_option maxHeartbeats 8000000 in
set_option maxRecDepth 100000 in
theorem umbellaw21_Long.calls (k : Nat) (A0 : Option Addr) (c0 : Nat) (l0 : List (S49)) (r : Bool) (w : World) (hr0 : Kd.C k49 w A0 l0.length l0) (hc0 : l0.length ≤ c0) (h : umbellaw21_Long.f k l0 = some r) :
    Calls Tryd.prog 19 #[.slice A0 l0.length c0] w fun e w' => e = .returned (.bool r) ∧ Below w.heap.size w w' := by
  have HR0 := Aside0.mk hr0
  have HC0 := Aside0.mk hc0
  clear hr0 hc0
  have HB := Aside0.mk (Below.refl w.heap.size w)
  have H : (umbellaw21_Long.l0 k l0 0 0) = some r := h
  clear h
  have H' := Aside0.mk H
  clear H
  go_enter Tryd.func19, Tryd.ntmps19
  go_wp2
  go_loopg [3, 4] k (fun kq v3 v4 w' => ∃ (x3_1 : Int) (x4_1 : Int), v3 = .int .i64 x3_1 ∧ v4 = .int .i64 x4_1 ∧ Aside0 (umbellaw21_Long.l0 kq l0 x3_1 x4_1 = some r) ∧ Aside0 (kq ≤ k) ∧ Aside0 (Below w.heap.size w w'))
  case atStart => exact ⟨(0), (0), (by first | rfl | (simp; done) | (simp [*]; done)), (by first | rfl | (simp; done) | (simp [*]; done)), H', ⟨Nat.le_refl _⟩, ⟨by repeat (first | (with_reducible first | exact HB.out | apply below_alloc | apply pw_below_drewN | apply below_drew1) | exact HB.out)⟩⟩
  case round =>
    clear H'
    try clear c1
    obtain ⟨x3_1, x4_1, rfl, rfl, HA, HK1, HB⟩ := hrel
    cases gk with
    | zero => exact absurd HA.out (by simp [umbellaw21_Long.l0])
    | succ k1 =>
      have H := HA.out
      clear HA
      simp only [umbellaw21_Long.l0] at H
      by_cases c2 : x4_1 < (l0.length : Int)
      · rw [if_pos c2] at H
        have c2b0 : decide (x4_1 < (l0.length : Int)) = true := decide_eq_true c2
        clear c2
        by_cases c3 : x3_1 ≤ 2000
        · rw [if_pos c3] at H
          have c3b0 : decide (x3_1 ≤ 2000) = true := decide_eq_true c3
          clear c3
          by_cases c4 : 0 ≤ x4_1
          · rw [if_pos c4] at H
            have c4b0 : decide (0 ≤ x4_1) = true := decide_eq_true c4
            clear c4
            obtain ⟨ji5, hji5⟩ : ∃ j_ : Int, (mn (((rd_T49 l0 x4_1).f0).size : Int) 2000) = j_ := ⟨_, rfl⟩
            replace H : (umbellaw21_Long.l0 k1 l0 (wrap64 (x3_1 + (1 + (ji5)))) (wrap64 (x4_1 + 1))) = some r := by first | (rw [hji5] at H; exact H) | (simp only [hji5] at H ⊢; exact H)
            have hji5_ : (if 2000 < (((rd_T49 l0 x4_1).f0).size : Int) then 2000 else (((rd_T49 l0 x4_1).f0).size : Int)) = ji5 := hji5
            have H' := Aside0.mk H
            clear H
            have p101 : 0 ≤ (x4_1 : Int) := of_decide_eq_true (by first | (with_reducible assumption) | assumption)
            have q101 : x4_1 < (l0.length : Int) := of_decide_eq_true (by first | (with_reducible assumption) | assumption)
            obtain ⟨ad101, e101, hx101_0, hx101_1, hx101_2⟩ := at_T49 HR0.out x4_1 p101 q101
            cases e101
            replace hx101_0 := (HB.out.cell (World.block_lt_of_cell? w _ hx101_0)).trans hx101_0
            replace hx101_1 := (HB.out.cell (World.block_lt_of_cell? w _ hx101_1)).trans hx101_1
            replace hx101_2 := (HB.out.cell (World.block_lt_of_cell? w _ hx101_2)).trans hx101_2
            replace p101 := eq_true p101
            replace q101 := eq_true q101
            go_wp2
            go_roundg k1
            case measure => have := HK1.out; omega
            case rel => exact ⟨(wrap64 (x3_1 + (1 + (ji5)))), (wrap64 (x4_1 + 1)), (by first | rfl | (simp; done) | (simp only [← hji5] <;> (first | rfl | simp)) | (simp [*]; done)), (by first | rfl | (simp; done) | (simp [*]; done)), H', ⟨by have := HK1.out; omega⟩, ⟨by repeat (first | (with_reducible first | exact HB.out | apply below_alloc | apply pw_below_drewN | apply below_drew1) | exact HB.out)⟩⟩
          · rw [if_neg c4] at H
            exact absurd H (by simp)
        · rw [if_neg c3] at H
          have c3b0 : decide (x3_1 ≤ 2000) = false := decide_eq_false c3
          clear c3
          obtain rfl := Option.some.inj H
          go_wp2
          go_ret
          exact ⟨by first | rfl | (simp [errW_none, errW_some] <;> rfl) | (simp [*, errW_none, errW_some] <;> rfl), by repeat (first | (with_reducible first | exact HB.out | apply below_alloc | apply pw_below_drewN | apply below_drew1) | exact HB.out)⟩
      · rw [if_neg c2] at H
        have c2b0 : decide (x4_1 < (l0.length : Int)) = false := decide_eq_false c2
        clear c2
        obtain rfl := Option.some.inj H
        go_wp2
        go_ret
        exact ⟨by first | rfl | (simp [errW_none, errW_some] <;> rfl) | (simp [*, errW_none, errW_some] <;> rfl), by repeat (first | (with_reducible first | exact HB.out | apply below_alloc | apply pw_below_drewN | apply below_drew1) | exact HB.out)⟩

/-! ### digest_Pad: function 15 -/
def digest_Pad.l0 : Nat → List Int → Int → Int → Option (ByteArray)
  | 0, _, _, _ => none
  | k + 1, x4, x5, x24 => if x24 < 8 then (if 0 ≤ (wrap64 (8 * (wrap64 (7 - x24)))) then (if x4.length < 140737488355328 then (digest_Pad.l0 k (x4 ++ [(shr .u64 x5 (wrap64 (8 * (wrap64 (7 - x24))))) % 256]) x5 (wrap64 (x24 + 1))) else (none)) else (none)) else (some (strOfNums x4))
def digest_Pad.f (k : Nat) (a0 : Int) : Option (ByteArray) := if 0 ≤ (wrap64 (1 + (wrap64 (63 - (Int.tmod (wrap64 ((mx a0 0) + 8)) 64))))) then (if (wrap64 (1 + (wrap64 (63 - (Int.tmod (wrap64 ((mx a0 0) + 8)) 64))))) ≤ (wrap64 ((wrap64 (1 + (wrap64 (63 - (Int.tmod (wrap64 ((mx a0 0) + 8)) 64))))) + 8)) then (if (wrap64 ((wrap64 (1 + (wrap64 (63 - (Int.tmod (wrap64 ((mx a0 0) + 8)) 64))))) + 8)) ≤ 281474976710656 then ((some (List.replicate (wrap64 (1 + (wrap64 (63 - (Int.tmod (wrap64 ((mx a0 0) + 8)) 64)))) : Int).toNat 0 : List Int)).bind fun y102 => (if 0 < (y102.length : Int) then (digest_Pad.l0 k (y102.set (0 : Int).toNat 128) (IntKind.u64.wrap ((IntKind.u64.wrap (mx a0 0)) * 8)) 0) else (none))) else (none)) else (none)) else (none)
set_option maxHeartbeats 8000000 in
set_option maxRecDepth 100000 in
theorem digest_Pad.calls (k : Nat) (a0 : Int) (r : ByteArray) (w : World) (h : digest_Pad.f k a0 = some r) :
    Calls Tryd.prog 15 #[.int .i64 a0] w fun e w' => e = .returned (.string r) ∧ Below w.heap.size w w' := by
  have HB := Aside0.mk (Below.refl w.heap.size w)
  have H : (if 0 ≤ (wrap64 (1 + (wrap64 (63 - (Int.tmod (wrap64 ((mx a0 0) + 8)) 64))))) then (if (wrap64 (1 + (wrap64 (63 - (Int.tmod (wrap64 ((mx a0 0) + 8)) 64))))) ≤ (wrap64 ((wrap64 (1 + (wrap64 (63 - (Int.tmod (wrap64 ((mx a0 0) + 8)) 64))))) + 8)) then (if (wrap64 ((wrap64 (1 + (wrap64 (63 - (Int.tmod (wrap64 ((mx a0 0) + 8)) 64))))) + 8)) ≤ 281474976710656 then ((some (List.replicate (wrap64 (1 + (wrap64 (63 - (Int.tmod (wrap64 ((mx a0 0) + 8)) 64)))) : Int).toNat 0 : List Int)).bind fun y102 => (if 0 < (y102.length : Int) then (digest_Pad.l0 k (y102.set (0 : Int).toNat 128) (IntKind.u64.wrap ((IntKind.u64.wrap (mx a0 0)) * 8)) 0) else (none))) else (none)) else (none)) else (none)) = some r := h
  clear h
  obtain ⟨ji2, hji2⟩ : ∃ j_ : Int, (mx a0 0) = j_ := ⟨_, rfl⟩
  replace H : (if 0 ≤ (wrap64 (1 + (wrap64 (63 - (Int.tmod (wrap64 ((ji2) + 8)) 64))))) then (if (wrap64 (1 + (wrap64 (63 - (Int.tmod (wrap64 ((ji2) + 8)) 64))))) ≤ (wrap64 ((wrap64 (1 + (wrap64 (63 - (Int.tmod (wrap64 ((ji2) + 8)) 64))))) + 8)) then (if (wrap64 ((wrap64 (1 + (wrap64 (63 - (Int.tmod (wrap64 ((ji2) + 8)) 64))))) + 8)) ≤ 281474976710656 then ((some (List.replicate (wrap64 (1 + (wrap64 (63 - (Int.tmod (wrap64 ((ji2) + 8)) 64)))) : Int).toNat 0 : List Int)).bind fun y102 => (if 0 < (y102.length : Int) then (digest_Pad.l0 k (y102.set (0 : Int).toNat 128) (IntKind.u64.wrap ((IntKind.u64.wrap (ji2)) * 8)) 0) else (none))) else (none)) else (none)) else (none)) = some r := by first | (rw [hji2] at H; exact H) | (simp only [hji2] at H ⊢; exact H)
  (try (have hji2l : 0 ≤ ji2 := by (rw [← hji2]; unfold mx; (repeat' split) <;> omega)))
  (try (have hji2m : 0 ≤ ji2 := by omega))
  have hji2_ : (if a0 < 0 then 0 else a0) = ji2 := hji2
  obtain ⟨ji3, hji3⟩ : ∃ j_ : Int, (wrap64 (1 + (wrap64 (63 - (Int.tmod (wrap64 ((ji2) + 8)) 64))))) = j_ := ⟨_, rfl⟩
  replace H : (if 0 ≤ (ji3) then (if (ji3) ≤ (wrap64 ((ji3) + 8)) then (if (wrap64 ((ji3) + 8)) ≤ 281474976710656 then ((some (List.replicate (ji3 : Int).toNat 0 : List Int)).bind fun y102 => (if 0 < (y102.length : Int) then (digest_Pad.l0 k (y102.set (0 : Int).toNat 128) (IntKind.u64.wrap ((IntKind.u64.wrap (ji2)) * 8)) 0) else (none))) else (none)) else (none)) else (none)) = some r := by first | (rw [hji3] at H; exact H) | (simp only [hji3] at H ⊢; exact H)
  have hji3w : (IntKind.i64.wrap (1 + (wrap64 (63 - (Int.tmod (wrap64 ((ji2) + 8)) 64))))) = ji3 := (i64_w _).trans hji3
  by_cases c4 : 0 ≤ (ji3)
  · rw [if_pos c4] at H
    have c4b0 := eq_true c4
    have c4b1 : decide (0 ≤ (ji3)) = true := decide_eq_true c4
    clear c4
    by_cases c5 : (ji3) ≤ (wrap64 ((ji3) + 8))
    · rw [if_pos c5] at H
      have c5b0 := eq_true c5
      have c5b1 : decide ((ji3) ≤ (wrap64 ((ji3) + 8))) = true := decide_eq_true c5
      by_cases c6 : (wrap64 ((ji3) + 8)) ≤ 281474976710656
      · rw [if_pos c6] at H
        have c6b0 := eq_true c6
        have c6b1 : decide ((wrap64 ((ji3) + 8)) ≤ 281474976710656) = true := decide_eq_true c6
        obtain ⟨y102, hy102⟩ : ∃ y_ : List Int, y_ = (List.replicate (ji3 : Int).toNat 0) := ⟨_, rfl⟩
        replace H : (if 0 < (y102.length : Int) then (digest_Pad.l0 k (y102.set (0 : Int).toNat 128) (IntKind.u64.wrap ((IntKind.u64.wrap (ji2)) * 8)) 0) else (none)) = some r := by first | (rw [hy102]; with_reducible exact H) | (have H2_ := (Option.bind_some _ _).symm.trans H; rw [hy102]; with_reducible exact H2_) | (have H2_ := (Option.bind_some _ _).symm.trans H; with_reducible exact H2_) | with_reducible exact H | (rw [hy102]; exact H) | exact H
        have Ny102 := Aside0.mk hy102
        clear hy102
        by_cases c7 : 0 < (y102.length : Int)
        · rw [if_pos c7] at H
          have c7b0 : decide (0 < (y102.length : Int)) = true := decide_eq_true c7
          have c7b1 : decide (0 < y102.length) = true := decide_eq_true (by omega)
          clear c7
          obtain ⟨y105, hy105⟩ : ∃ y_ : List Int, y_ = (y102.set (0 : Int).toNat 128) := ⟨_, rfl⟩
          replace H : (digest_Pad.l0 k y105 (IntKind.u64.wrap ((IntKind.u64.wrap (ji2)) * 8)) 0) = some r := by first | (rw [hy105]; with_reducible exact H) | (have H2_ := (Option.bind_some _ _).symm.trans H; rw [hy105]; with_reducible exact H2_) | (have H2_ := (Option.bind_some _ _).symm.trans H; with_reducible exact H2_) | with_reducible exact H | (rw [hy105]; exact H) | exact H
          have Ny105 := Aside0.mk hy105
          clear hy105
          have H' := Aside0.mk H
          clear H
          go_enter Tryd.func15, Tryd.ntmps15
          go_wp2_with (first | ((with_reducible refine gate_dst (N := 18) rfl ?_); refine Kd.R_makecap (Kd.int .u8) _ 5 rfl (N := 18) rfl 53 _ _ rfl ji3 (wrap64 ((ji3) + 8)) rfl rfl Tryd.underlying53 (.int .u8 0) 1 info5 rfl (by decide) (by omega) 0 (ok := fun _ => True) (okp := fun _ => True) rfl (fun _ hk => hk) trivial (of_decide_eq_true (by first | (with_reducible assumption) | assumption)) (of_decide_eq_true (by first | (with_reducible assumption) | assumption)) (le_cap_ (by_ := 1) (K := 281474976710656) (of_decide_eq_true (by first | (with_reducible assumption) | assumption)) (by decide)) (Below.refl _ _) (Nat.le_refl _) ?_; intro v103 w9 ho10 hb hg_ hnew_; clear hg_ hnew_; (first | rw [← Ny102.out] at ho10 | (simp only [Int.reduceToNat] at ho10; rw [← Ny102.out] at ho10)); have n0_ := Aside0.mk (Kd.R_lower ho10 (below_size (by repeat (first | (with_reducible first | exact HB.out | apply below_alloc | apply pw_below_drewN | apply below_drew1) | exact HB.out)))); have n1_ := Aside0.mk (below_step (by repeat (first | (with_reducible first | exact HB.out | apply below_alloc | apply pw_below_drewN | apply below_drew1) | exact HB.out)) hb); clear HB; have HO104 := n0_; have HB := n1_; clear n0_ n1_; clear hb ho10; have p8 : 0 ≤ (0 : Int) := (by omega); have q8 : (0 : Int) < ((y102.length : Int) : Int) := of_decide_eq_true (by first | (with_reducible assumption) | assumption); have qi8 : (0 < y102.length) = True := eq_true (by omega); obtain ⟨go8, co8, eo8, gb8, gl8, cl8, HG8⟩ := Kd.R_form HO104.out (by omega); (first | cases eo8 | (injection eo8 with ea_ en_ ec_; (first | subst ea_ | (injection ea_ with ea_; subst ea_)); subst ec_; clear en_)); have GB8 := Aside0.mk gb8; have GG8 := Aside0.mk HG8; clear gb8 gl8 HG8; obtain ⟨hx8_0, hf8_0⟩ := Kd.R_celln 0 HO104.out (0 : Int) p8 q8; (try rw [show ((0 : Int)).toNat = 0 from rfl] at hx8_0); (try simp only [Nat.reduceMul, Nat.zero_mul, Nat.zero_add, Nat.reduceAdd] at hx8_0); (try rw [show ((0 : Int)).toNat = 0 from rfl] at hf8_0); (try simp only [Nat.reduceMul, Nat.zero_mul, Nat.zero_add, Nat.reduceAdd] at hf8_0); replace p8 := eq_true p8; replace q8 := eq_true q8; obtain ⟨hy11_, hz11_⟩ := Kd.R_celln 0 HO104.out (0 : Int) (by omega) (of_decide_eq_true (by first | (with_reducible assumption) | assumption)); (try simp only [Int.reduceToNat, Int.toNat_zero, Int.toNat_ofNat, Nat.reduceMul, Nat.zero_mul, Nat.zero_add] at hy11_ hz11_); (try rw [show ((0 : Int)).toNat = 0 from rfl] at hy11_); (try rw [show ((0 : Int)).toNat = 0 from rfl] at hz11_); have HP11 := Kd.R_putg HO104.out (0 : Int) 128) | ((with_reducible refine gate_store (t := 5) (p := 20) rfl ?_); refine store_event (t := 5) (p := 20) (v := ?vo_w12) (w1 := (w9.setCell ⟨go8, (0 : Int).toNat, none⟩ (.int .u8 128))) ?hg ?ho ?hn ?hr ?_; (case ho => rfl); (case hg => rfl); (case hn => rfl); (case hr => first | (go_simp; done) | (go_simp; rfl)); intro w12 hw; have hg : w9.grownBy w12 (some go8) := (by rw [hw]; exact HP11.2); have hp_ : Kd.R (Kd.int .u8) 5 w12 w.heap.size (fun _ => True) (.slice (some ⟨go8, 0, none⟩) y102.length co8) y105 := (by rw [hw, Ny105.out]; exact HP11.1); clear HP11; have n0_ := Aside0.mk (hp_); have n1_ := Aside0.mk ((by rw [hw]; exact below_set (HB.out) GB8.out : Below w.heap.size w w12)); clear HO104; clear HB; have HO104 := n0_; have HB := n1_; clear n0_ n1_; clear hg hw hp_))
          go_loopg [4, 24] k (fun kq v4 v24 w' => ∃ (x4_1 : List Int) (x24_1 : Int), v24 = .int .i64 x24_1 ∧ Aside0 (digest_Pad.l0 kq x4_1 (IntKind.u64.wrap ((IntKind.u64.wrap (ji2)) * 8)) x24_1 = some r) ∧ Aside0 (kq ≤ k) ∧ Aside0 (Kd.R (Kd.int .u8) 5 w' w.heap.size (fun _ => True) v4 x4_1) ∧ Aside0 (Below w.heap.size w w'))
          case atStart => exact ⟨(y105), (0), (by first | rfl | (simp; done) | (simp [*]; done)), H', ⟨Nat.le_refl _⟩, ⟨by (with_reducible repeat (first | apply Kd.R_alloc | apply Kd.R_drewN | apply Kd.R_drew)); exact HO104.out⟩, ⟨by repeat (first | (with_reducible first | exact HB.out | apply below_alloc | apply pw_below_drewN | apply below_drew1) | exact HB.out)⟩⟩
          case round =>
            clear H'
            try clear c1
            try clear p2
            try clear c4
            try clear c4b0
            try clear c4b1
            try clear c5
            try clear c5b0
            try clear c5b1
            try clear c6
            try clear c6b0
            try clear c6b1
            try clear p6
            try clear c7
            try clear c7b0
            try clear c7b1
            try clear p8
            try clear q8
            try clear hx8
            try clear qi8
            try clear hf8
            try clear hx8_0
            try clear p8
            try clear q8
            obtain ⟨x4_1, x24_1, rfl, HA, HK1, HO_4, HB⟩ := hrel
            cases gk with
            | zero => exact absurd HA.out (by simp [digest_Pad.l0])
            | succ k1 =>
              have H := HA.out
              clear HA
              simp only [digest_Pad.l0] at H
              by_cases c13 : x24_1 < 8
              · rw [if_pos c13] at H
                have c13b0 : decide (x24_1 < 8) = true := decide_eq_true c13
                clear c13
                obtain ⟨ji14, hji14⟩ : ∃ j_ : Int, (wrap64 (8 * (wrap64 (7 - x24_1)))) = j_ := ⟨_, rfl⟩
                replace H : (if 0 ≤ (ji14) then (if x4_1.length < 140737488355328 then (digest_Pad.l0 k1 (x4_1 ++ [(shr .u64 (IntKind.u64.wrap ((IntKind.u64.wrap (ji2)) * 8)) (ji14)) % 256]) (IntKind.u64.wrap ((IntKind.u64.wrap (ji2)) * 8)) (wrap64 (x24_1 + 1))) else (none)) else (none)) = some r := by first | (rw [hji14] at H; exact H) | (simp only [hji14] at H ⊢; exact H)
                have hji14w : (IntKind.i64.wrap (8 * (wrap64 (7 - x24_1)))) = ji14 := (i64_w _).trans hji14
                by_cases c15 : 0 ≤ (ji14)
                · rw [if_pos c15] at H
                  have c15b0 := eq_true c15
                  have c15b1 : decide (0 ≤ (ji14)) = true := decide_eq_true c15
                  clear c15
                  obtain ⟨ji16, hji16⟩ : ∃ j_ : Int, (shr .u64 (IntKind.u64.wrap ((IntKind.u64.wrap (ji2)) * 8)) (ji14)) = j_ := ⟨_, rfl⟩
                  replace H : (if x4_1.length < 140737488355328 then (digest_Pad.l0 k1 (x4_1 ++ [(ji16) % 256]) (IntKind.u64.wrap ((IntKind.u64.wrap (ji2)) * 8)) (wrap64 (x24_1 + 1))) else (none)) = some r := by first | (rw [hji16] at H; exact H) | (simp only [hji16] at H ⊢; exact H)
                  have hji16_ : ((IntKind.u64.wrap ((IntKind.u64.wrap (ji2)) * 8)) / 2 ^ min (ji14).toNat 64) = ji16 := hji16
                  have hji16z : (ji14) ≤ 64 → ((IntKind.u64.wrap ((IntKind.u64.wrap (ji2)) * 8)) / 2 ^ (ji14).toNat) = ji16 := shr_small hji16
                  by_cases c17 : x4_1.length < 140737488355328
                  · rw [if_pos c17] at H
                    have LMc17 := Aside0.mk c17
                    clear c17
                    obtain ⟨y106, hy106⟩ : ∃ y_ : List Int, y_ = (x4_1 ++ [(ji16) % 256]) := ⟨_, rfl⟩
                    replace H : (digest_Pad.l0 k1 y106 (IntKind.u64.wrap ((IntKind.u64.wrap (ji2)) * 8)) (wrap64 (x24_1 + 1))) = some r := by first | (rw [hy106]; with_reducible exact H) | (have H2_ := (Option.bind_some _ _).symm.trans H; rw [hy106]; with_reducible exact H2_) | (have H2_ := (Option.bind_some _ _).symm.trans H; with_reducible exact H2_) | with_reducible exact H | (rw [hy106]; exact H) | exact H
                    have Ny106 := Aside0.mk hy106
                    clear hy106
                    have H' := Aside0.mk H
                    clear H
                    go_wp2_with (first | ((with_reducible refine gate_builtin (b := .append) (xs := #[.tmp 27, .tmp 34]) rfl ?_); at_builtin; refine Kd.R_append (Kd.int .u8) (w0 := w) w.heap.size rfl (.tmp 27) (.tmp 34) 53 5 (.int .u8 0) 1 rfl Tryd.underlying53 info5 rfl (by decide) (by omega) u4 x4_1 ((ji16) % 256) [.int .u8 ((ji16) % 256)] (fun _ => True) (fun _ => False) rfl rfl ?aP (fun _ hk => hk.elim) ?aF ?aO ?aB ?aS ?aL ?_; (case aP => exact rfl); (case aB => exact (by repeat (first | (with_reducible first | exact HB.out | apply below_alloc | apply pw_below_drewN | apply below_drew1) | exact HB.out))); (case aF => exact (fun _ _ => trivial)); (case aO => exact (by (with_reducible repeat (first | apply Kd.R_alloc | apply Kd.R_drewN | apply Kd.R_drew)); exact HO_4.out)); (case aS => exact (below_size (by repeat (first | (with_reducible first | exact HB.out | apply below_alloc | apply pw_below_drewN | apply below_drew1) | exact HB.out)))); (case aL => have := LMc17.out; omega); intro v107 w18 ho hb hg hat; rw [← Ny106.out] at ho; have n0_ := Aside0.mk (hb); have n1_ := Aside0.mk (ho); clear HB; clear HO_4; have HB := n0_; have HO108 := n1_; clear n0_ n1_; clear ho hb hg hat))
                    go_roundg k1
                    case measure => have := HK1.out; omega
                    case rel => exact ⟨(y106), (wrap64 (x24_1 + 1)), (by first | rfl | (simp; done) | (simp [*]; done)), H', ⟨by have := HK1.out; omega⟩, ⟨by (with_reducible repeat (first | apply Kd.R_alloc | apply Kd.R_drewN | apply Kd.R_drew)); exact HO108.out⟩, ⟨by repeat (first | (with_reducible first | exact HB.out | apply below_alloc | apply pw_below_drewN | apply below_drew1) | exact HB.out)⟩⟩
                  · rw [if_neg c17] at H
                    exact absurd H (by simp)
                · rw [if_neg c15] at H
                  exact absurd H (by simp)
              · rw [if_neg c13] at H
                have c13b0 : decide (x24_1 < 8) = false := decide_eq_false c13
                clear c13
                obtain rfl := Option.some.inj H
                have hcv19 := own_string (P := Tryd.prog) Tryd.underlying53 Tryd.underlying5 Tryd.underlying9 (Kd.own_of_R HO_4.out)
                go_wp2
                go_ret
                exact ⟨by first | rfl | (simp [errW_none, errW_some] <;> rfl) | (simp only [← hji2, ← hji3]; first | rfl | (simp [errW_none, errW_some] <;> rfl)) | (simp [*, errW_none, errW_some] <;> rfl), by repeat (first | (with_reducible first | exact HB.out | apply below_alloc | apply pw_below_drewN | apply below_drew1) | exact HB.out)⟩
        · rw [if_neg c7] at H
          exact absurd H (by simp)
      · rw [if_neg c6] at H
        exact absurd H (by simp)
    · rw [if_neg c5] at H
      exact absurd H (by simp)
  · rw [if_neg c4] at H
    exact absurd H (by simp)

/-! ### bits_RotateLeft32: function 43 -/
/-! ### digest_turned: function 34 -/
-- NOT PRINTED: function 33 (digest_schedule)

-- NOT PRINTED: function 17 (digest_Block)

-- NOT PRINTED: function 11 (digest_Of)

/-! ### root_Empty: function 50 -/
def root_Empty.f : Option (ByteArray) := some RngH.eH
theorem root_Empty.calls (r : ByteArray) (w : World) (hG : Glob w) (h : root_Empty.f = some r) :
    Calls Tryd.prog 50 #[] w fun e w' => e = .returned (.string r) ∧ Below w.heap.size w w' := by
  rw [← Option.some.inj h]
  exact RngH.rempty_c w hG


end Go.Proofs.YtbphehijikdkjaaDoor.PRng
