-- Written by a program of this session for this seat. Not trusted: Lean checks it.
import Derived.Test.YtbphehijikdkjaaDoorPDglx0
namespace Go.Proofs.YtbphehijikdkjaaDoor.PDgl
open Go.RowKit Go.Proofs.YtbphehijikdkjaaDoorW.PrintWords Go.Proofs.YtbphehijikdkjaaDoorW.PrintLast Go.Proofs.YtbphehijikdkjaaDoorW.PrintMore
attribute [local go_sem] max2_int min2_int max_two min_two max_three min_three max_four min_four   -- for this text's walks alone
set_option linter.unusedVariables false
set_option linter.unusedSimpArgs false
open Go.Proofs.YtbphehijikdkjaaDoor.HW Go.Proofs.YtbphehijikdkjaaDoor.DgsB

/-! ### digest_Pad: function 15 -/
def digest_Pad.f (a0 : Int) : Option (ByteArray) := if (mx a0 0).toNat ≤ 576460752303423488 then some (strOfNums (DgsL.padB (mx a0 0).toNat)) else none
theorem digest_Pad.calls (a0 : Int) (r : ByteArray) (w : World) (h : digest_Pad.f a0 = some r) :
    Calls Tryd.prog 15 #[.int .i64 a0] w fun e w' => e = .returned (.string r) ∧ Below w.heap.size w w' := by
  unfold digest_Pad.f at h
  split at h
  · rename_i hs
    rw [← Option.some.inj h]
    exact Go.Proofs.YtbphehijikdkjaaDoor.PDgs.digest_Pad.calls 9 a0 _ w (DgsL.pad_eq _ hs a0 (by unfold mx; split <;> omega))
  · cases h


/-! ### bits_RotateLeft32: function 43 -/
def bits_RotateLeft32.f (a0 : Int) (a1 : Int) : Option (Int) := if 0 ≤ (Go.bits .and .u64 (IntKind.u64.wrap (a1)) 31) then (if 0 ≤ (IntKind.u64.wrap (32 - (Go.bits .and .u64 (IntKind.u64.wrap (a1)) 31))) then (some (Go.bits .or .u32 (shl .u32 a0 (Go.bits .and .u64 (IntKind.u64.wrap (a1)) 31)) (shr .u32 a0 (IntKind.u64.wrap (32 - (Go.bits .and .u64 (IntKind.u64.wrap (a1)) 31)))))) else (none)) else (none)
set_option maxHeartbeats 8000000 in
set_option maxRecDepth 100000 in
theorem bits_RotateLeft32.calls (a0 : Int) (a1 : Int) (r : Int) (w : World) (h : bits_RotateLeft32.f a0 a1 = some r) :
    Calls Tryd.prog 43 #[.int .u32 a0, .int .i64 a1] w fun e w' => e = .returned (.int .u32 r) ∧ Drawn0 w w' := by
  have H : (if 0 ≤ (Go.bits .and .u64 (IntKind.u64.wrap (a1)) 31) then (if 0 ≤ (IntKind.u64.wrap (32 - (Go.bits .and .u64 (IntKind.u64.wrap (a1)) 31))) then (some (Go.bits .or .u32 (shl .u32 a0 (Go.bits .and .u64 (IntKind.u64.wrap (a1)) 31)) (shr .u32 a0 (IntKind.u64.wrap (32 - (Go.bits .and .u64 (IntKind.u64.wrap (a1)) 31)))))) else (none)) else (none)) = some r := h
  clear h
  obtain ⟨ji3, hji3⟩ : ∃ j_ : Int, (Go.bits .and .u64 (IntKind.u64.wrap (a1)) 31) = j_ := ⟨_, rfl⟩
  replace H : (if 0 ≤ (ji3) then (if 0 ≤ (IntKind.u64.wrap (32 - (ji3))) then (some (Go.bits .or .u32 (shl .u32 a0 (ji3)) (shr .u32 a0 (IntKind.u64.wrap (32 - (ji3)))))) else (none)) else (none)) = some r := by first | (rw [hji3] at H; exact H) | (simp only [hji3] at H ⊢; exact H)
  by_cases c4 : 0 ≤ (ji3)
  · rw [if_pos c4] at H
    have c4b0 := eq_true c4
    have c4b1 : decide (0 ≤ (ji3)) = true := decide_eq_true c4
    clear c4
    obtain ⟨ji5, hji5⟩ : ∃ j_ : Int, (shl .u32 a0 (ji3)) = j_ := ⟨_, rfl⟩
    replace H : (if 0 ≤ (IntKind.u64.wrap (32 - (ji3))) then (some (Go.bits .or .u32 (ji5) (shr .u32 a0 (IntKind.u64.wrap (32 - (ji3)))))) else (none)) = some r := by first | (rw [hji5] at H; exact H) | (simp only [hji5] at H ⊢; exact H)
    have hji5_ : (IntKind.u32.wrap (a0 * 2 ^ min (ji3).toNat 32)) = ji5 := hji5
    have hji5z : (ji3) ≤ 32 → (IntKind.u32.wrap (a0 * 2 ^ (ji3).toNat)) = ji5 := shl_small hji5
    obtain ⟨ji6, hji6⟩ : ∃ j_ : Int, (IntKind.u64.wrap (32 - (ji3))) = j_ := ⟨_, rfl⟩
    replace H : (if 0 ≤ (ji6) then (some (Go.bits .or .u32 (ji5) (shr .u32 a0 (ji6)))) else (none)) = some r := by first | (rw [hji6] at H; exact H) | (simp only [hji6] at H ⊢; exact H)
    by_cases c7 : 0 ≤ (ji6)
    · rw [if_pos c7] at H
      have c7b0 := eq_true c7
      have c7b1 : decide (0 ≤ (ji6)) = true := decide_eq_true c7
      clear c7
      obtain ⟨ji8, hji8⟩ : ∃ j_ : Int, (shr .u32 a0 (ji6)) = j_ := ⟨_, rfl⟩
      replace H : (some (Go.bits .or .u32 (ji5) (ji8))) = some r := by first | (rw [hji8] at H; exact H) | (simp only [hji8] at H ⊢; exact H)
      have hji8_ : (a0 / 2 ^ min (ji6).toNat 32) = ji8 := hji8
      have hji8z : (ji6) ≤ 32 → (a0 / 2 ^ (ji6).toNat) = ji8 := shr_small hji8
      obtain rfl := Option.some.inj H
      go_enter Tryd.func43, Tryd.ntmps43
      go_wp2
      go_ret
      exact ⟨by first | rfl | (simp; done) | (simp only [← hji3, ← hji5, ← hji6, ← hji8] <;> (first | rfl | simp)) | (simp [*]; done), by repeat (first | exact Drawn0.refl _ | apply Drawn0.step)⟩
    · rw [if_neg c7] at H
      exact absurd H (by simp)
  · rw [if_neg c4] at H
    exact absurd H (by simp)

/-! ### digest_turned: function 34 -/
def digest_turned.f (a0 : Int) (a1 : Int) : Option (Int) := (bits_RotateLeft32.f a0 (wrap64 (-a1))).bind fun t101 => (some t101)
set_option maxHeartbeats 8000000 in
set_option maxRecDepth 100000 in
theorem digest_turned.calls (a0 : Int) (a1 : Int) (r : Int) (w : World) (h : digest_turned.f a0 a1 = some r) :
    Calls Tryd.prog 34 #[.int .u32 a0, .int .i64 a1] w fun e w' => e = .returned (.int .u32 r) ∧ Drawn0 w w' := by
  have H : ((bits_RotateLeft32.f a0 (wrap64 (-a1))).bind fun t101 => (some t101)) = some r := h
  clear h
  replace H := Option.bind_eq_some_iff.mp H
  obtain ⟨t101, A30, H⟩ := H
  replace H : (some t101) = some r := H
  have A3 := Aside0.mk A30
  clear A30
  obtain rfl := Option.some.inj H
  go_enter Tryd.func34, Tryd.ntmps34
  go_wp2_with (first | ((with_reducible refine gate_callee (f := 43) rfl ?_); refine goesL_ (some 8) rfl rfl Tryd.func43 (by kernel_rfl) rfl #[.int .u32 a0, .int .i64 (wrap64 (-a1))] rfl (by (try simp only [List.map_toArray, List.map_cons, List.map_nil]); first | done | rfl | (simp only [List.length_drop, List.length_take]; rfl)) ?_; (with_reducible refine (bits_RotateLeft32.calls a0 (wrap64 (-a1)) t101 _ A3.out).mono ?_); rintro e w' ⟨rfl, ⟨nd, rfl⟩⟩; refine ⟨_, rfl, ?_⟩))
  go_ret
  exact ⟨by first | rfl | (simp; done) | (simp [*]; done), by repeat (first | exact Drawn0.refl _ | apply Drawn0.step)⟩

-- NOT PRINTED: function 33 (digest_schedule)

-- NOT PRINTED: function 17 (digest_Block)

-- NOT PRINTED: function 11 (digest_Of)

-- NOT PRINTED: function 49 (abi_NoEscape)

-- NOT PRINTED: function 42 (strings_Builder_copyCheck)

-- NOT PRINTED: function 31 (strings_Builder_WriteByte)

-- NOT PRINTED: function 32 (strings_Builder_String)

/-! ### digest_Hex: function 13 -/
def digest_Hex.f (a0 : ByteArray) : Option (ByteArray) := if a0.size ≤ 1000000 then some (strOfNums (DgsL.hexB (bytesOf a0))) else none
theorem digest_Hex.calls (a0 : ByteArray) (r : ByteArray) (w : World) (h : digest_Hex.f a0 = some r) :
    Calls Tryd.prog 13 #[.string a0] w fun e w' => e = .returned (.string r) ∧ Below w.heap.size w w' := by
  unfold digest_Hex.f at h
  split at h
  · rename_i hs
    rw [← Option.some.inj h]
    exact DgsX.hex_c a0 hs w
  · cases h


/-! ### umbellaw04_wakes: function 10 -/
def umbellaw04_wakes.f : Option (Bool) := some true
theorem umbellaw04_wakes.calls (r : Bool) (w : World) (hG : Glob w) (h : umbellaw04_wakes.f = some r) :
    Calls Tryd.prog 10 #[] w fun e w' => e = .returned (.bool r) ∧ Below w.heap.size w w' := by
  rw [← Option.some.inj h]
  exact DgsW.wakes_c w hG


/-! ### umbellaw04_DigestPads: function 5 -/
mutual
def umbellaw04_DigestPads.j0 : Nat → Int → ByteArray → Bool → Option (Bool)
  | 0, _, _, _ => none
  | k + 1, x0, x3, x31 => if x31 = true then (some false) else (umbellaw04_DigestPads.l0 k x0 x3 1)
def umbellaw04_DigestPads.l0 : Nat → Int → ByteArray → Int → Option (Bool)
  | 0, _, _, _ => none
  | k + 1, x0, x3, x4 => if x4 < (wrap64 ((x3.size : Int) - 8)) then (if 0 ≤ x4 then (if x4 < (x3.size : Int) then (if (bt x3 x4) = 0 then (umbellaw04_DigestPads.l0 k x0 x3 (wrap64 (x4 + 1))) else (some false)) else (none)) else (none)) else (umbellaw04_DigestPads.l1 k x0 x3 0 (wrap64 ((x3.size : Int) - 8)))
def umbellaw04_DigestPads.l1 : Nat → Int → ByteArray → Int → Int → Option (Bool)
  | 0, _, _, _, _ => none
  | k + 1, x0, x3, x5, x6 => if x6 < (x3.size : Int) then (if 0 ≤ x6 then (umbellaw04_DigestPads.l1 k x0 x3 (Go.bits .or .u64 (IntKind.u64.wrap (x5 * 256)) (IntKind.u64.wrap (bt x3 x6))) (wrap64 (x6 + 1))) else (none)) else (if x5 = (IntKind.u64.wrap (8 * (IntKind.u64.wrap (x0)))) then ((digest_Pad.f (wrap64 ((wrap64 (-(wrap64 (x0)))) - 1))).bind fun t104 => ((digest_Pad.f 0).bind fun t105 => (if t104.toList = t105.toList then ((umbellaw04_wakes.f).bind fun t106 => (some t106)) else (some false)))) else (some false))
end
def umbellaw04_DigestPads.f (k : Nat) (a0 : Int) : Option (Bool) := (digest_Pad.f (wrap64 (a0))).bind fun t103 => (if (t103.size : Int) < 9 then (umbellaw04_DigestPads.j0 k a0 t103 true) else (if (t103.size : Int) > 72 then (umbellaw04_DigestPads.j0 k a0 t103 true) else (if (Int.tmod (wrap64 ((wrap64 (a0)) + (t103.size : Int))) 64) = 0 then (if 0 < (t103.size : Int) then (umbellaw04_DigestPads.j0 k a0 t103 ((bt t103 0) != 128)) else (none)) else (umbellaw04_DigestPads.j0 k a0 t103 true))))
theorem umbellaw04_DigestPads.mono_l : ∀ k, (∀ y0 y1 y2, LeO (umbellaw04_DigestPads.j0 k y0 y1 y2) (umbellaw04_DigestPads.j0 (k + 1) y0 y1 y2)) ∧ (∀ y0 y1 y2, LeO (umbellaw04_DigestPads.l0 k y0 y1 y2) (umbellaw04_DigestPads.l0 (k + 1) y0 y1 y2)) ∧ (∀ y0 y1 y2 y3, LeO (umbellaw04_DigestPads.l1 k y0 y1 y2 y3) (umbellaw04_DigestPads.l1 (k + 1) y0 y1 y2 y3))
  | 0 => ⟨fun _ _ _ r h => by simp [umbellaw04_DigestPads.j0] at h, fun _ _ _ r h => by simp [umbellaw04_DigestPads.l0] at h, fun _ _ _ _ r h => by simp [umbellaw04_DigestPads.l1] at h⟩
  | k + 1 => by
    obtain ⟨ih0, ih1, ih2⟩ := umbellaw04_DigestPads.mono_l k
    refine ⟨?_, ?_, ?_⟩
    · intro y0 y1 y2
      unfold umbellaw04_DigestPads.j0
      repeat' first
      | (with_reducible exact ih0 _ _ _)
      | (with_reducible exact ih1 _ _ _)
      | (with_reducible exact ih2 _ _ _ _)
      | (with_reducible exact LeO.refl _)
      | (with_reducible exact LeO.none _)
      | (with_reducible refine LeO.ite ?_ ?_)
      | (with_reducible refine LeO.bind ?_ (fun _ => ?_))
      | exact ih0 _ _ _
      | exact ih1 _ _ _
      | exact ih2 _ _ _ _
      | exact LeO.none _
      | refine LeO.ite ?_ ?_
      | refine LeO.bind ?_ (fun _ => ?_)
    · intro y0 y1 y2
      unfold umbellaw04_DigestPads.l0
      repeat' first
      | (with_reducible exact ih0 _ _ _)
      | (with_reducible exact ih1 _ _ _)
      | (with_reducible exact ih2 _ _ _ _)
      | (with_reducible exact LeO.refl _)
      | (with_reducible exact LeO.none _)
      | (with_reducible refine LeO.ite ?_ ?_)
      | (with_reducible refine LeO.bind ?_ (fun _ => ?_))
      | exact ih0 _ _ _
      | exact ih1 _ _ _
      | exact ih2 _ _ _ _
      | exact LeO.none _
      | refine LeO.ite ?_ ?_
      | refine LeO.bind ?_ (fun _ => ?_)
    · intro y0 y1 y2 y3
      unfold umbellaw04_DigestPads.l1
      repeat' first
      | (with_reducible exact ih0 _ _ _)
      | (with_reducible exact ih1 _ _ _)
      | (with_reducible exact ih2 _ _ _ _)
      | (with_reducible exact LeO.refl _)
      | (with_reducible exact LeO.none _)
      | (with_reducible refine LeO.ite ?_ ?_)
      | (with_reducible refine LeO.bind ?_ (fun _ => ?_))
      | exact ih0 _ _ _
      | exact ih1 _ _ _
      | exact ih2 _ _ _ _
      | exact LeO.none _
      | refine LeO.ite ?_ ?_
      | refine LeO.bind ?_ (fun _ => ?_)
theorem umbellaw04_DigestPads.mono : ∀ a0 k, LeO (umbellaw04_DigestPads.f k a0) (umbellaw04_DigestPads.f (k + 1) a0) := by
  intro a0 k
  obtain ⟨ih0, ih1, ih2⟩ := umbellaw04_DigestPads.mono_l k
  unfold umbellaw04_DigestPads.f
  repeat' first
      | (with_reducible exact ih0 _ _ _)
      | (with_reducible exact ih1 _ _ _)
      | (with_reducible exact ih2 _ _ _ _)
      | (with_reducible exact LeO.refl _)
      | (with_reducible exact LeO.none _)
      | (with_reducible refine LeO.ite ?_ ?_)
      | (with_reducible refine LeO.bind ?_ (fun _ => ?_))
      | exact ih0 _ _ _
      | exact ih1 _ _ _
      | exact ih2 _ _ _ _
      | exact LeO.none _
      | refine LeO.ite ?_ ?_
      | refine LeO.bind ?_ (fun _ => ?_)
set_option maxHeartbeats 8000000 in
set_option maxRecDepth 100000 in
theorem umbellaw04_DigestPads.calls (k : Nat) (a0 : Int) (r : Bool) (w : World) (hG : Glob w) (h : umbellaw04_DigestPads.f k a0 = some r) :
    Calls Tryd.prog 5 #[.int .u32 a0] w fun e w' => e = .returned (.bool r) ∧ Below w.heap.size w w' := by
  have HG := Aside0.mk hG
  clear hG
  have HB := Aside0.mk (Below.refl w.heap.size w)
  have H : ((digest_Pad.f (wrap64 (a0))).bind fun t103 => (if (t103.size : Int) < 9 then (umbellaw04_DigestPads.j0 k a0 t103 true) else (if (t103.size : Int) > 72 then (umbellaw04_DigestPads.j0 k a0 t103 true) else (if (Int.tmod (wrap64 ((wrap64 (a0)) + (t103.size : Int))) 64) = 0 then (if 0 < (t103.size : Int) then (umbellaw04_DigestPads.j0 k a0 t103 ((bt t103 0) != 128)) else (none)) else (umbellaw04_DigestPads.j0 k a0 t103 true))))) = some r := h
  clear h
  replace H := Option.bind_eq_some_iff.mp H
  obtain ⟨t103, A20, H⟩ := H
  replace H : (if (t103.size : Int) < 9 then (umbellaw04_DigestPads.j0 k a0 t103 true) else (if (t103.size : Int) > 72 then (umbellaw04_DigestPads.j0 k a0 t103 true) else (if (Int.tmod (wrap64 ((wrap64 (a0)) + (t103.size : Int))) 64) = 0 then (if 0 < (t103.size : Int) then (umbellaw04_DigestPads.j0 k a0 t103 ((bt t103 0) != 128)) else (none)) else (umbellaw04_DigestPads.j0 k a0 t103 true)))) = some r := H
  have A2 := Aside0.mk A20
  clear A20
  have HC3 := Aside0.mk H
  clear H
  go_enter Tryd.func5, Tryd.ntmps5
  go_upto_region 2 with (first | ((with_reducible refine gate_callee (f := 15) rfl ?_); refine goesL_ (some 9) rfl rfl Tryd.func15 (by kernel_rfl) rfl #[.int .i64 (wrap64 (a0))] rfl (by (try simp only [List.map_toArray, List.map_cons, List.map_nil]); first | done | rfl | (simp only [List.length_drop, List.length_take]; rfl)) ?_; (with_reducible refine (digest_Pad.calls (wrap64 (a0)) t103 _ A2.out).mono ?_); rintro e w4 ⟨rfl, hb⟩; refine ⟨_, rfl, ?_⟩; have n0_ := Aside0.mk (below_step (by repeat (first | (with_reducible first | exact HB.out | apply below_alloc | apply pw_below_drewN | apply below_drew1) | exact HB.out)) hb); clear HB; have HB := n0_; clear n0_; (try clear hb); (try clear hb2); (try clear hk); (try clear hi)))
  (try simp only [Act.put, List.setIfInBounds_toArray, List.set_cons_zero, List.set_cons_succ])
  go_cut [31] (fun v31 wc => ∃ (kq : Nat) (x31_2 : Bool), v31 = .bool x31_2 ∧ Aside0 (umbellaw04_DigestPads.j0 kq a0 t103 x31_2 = some r) ∧ Aside0 (kq ≤ k) ∧ Aside0 (Below w.heap.size w wc))
  case first =>
    have H := HC3.out
    clear HC3
    by_cases c5 : (t103.size : Int) < 9
    · rw [if_pos c5] at H
      have c5b0 : decide ((t103.size : Int) < 9) = true := decide_eq_true c5
      have c5b1 : decide (t103.size < 9) = true := decide_eq_true (by omega)
      clear c5
      (first | rw [c5b0] | (simp only [i64_w, i32_w]; rw [c5b0]) | skip)
      have H' := Aside0.mk H
      clear H
      go_wp2
      go_meet
      case rel => exact ⟨_, (true), (by first | rfl | (simp; done) | (simp [*]; done)), H', ⟨by first | omega | exact Nat.le_refl _⟩, ⟨by repeat (first | (with_reducible first | exact HB.out | apply below_alloc | apply pw_below_drewN | apply below_drew1) | exact HB.out)⟩⟩
    · rw [if_neg c5] at H
      have c5b0 : decide ((t103.size : Int) < 9) = false := decide_eq_false c5
      have c5b1 : decide (t103.size < 9) = false := decide_eq_false (by omega)
      clear c5
      (first | rw [c5b0] | (simp only [i64_w, i32_w]; rw [c5b0]) | skip)
      by_cases c6 : (t103.size : Int) > 72
      · rw [if_pos c6] at H
        have c6b0 : decide (72 < (t103.size : Int)) = true := decide_eq_true c6
        have c6b1 : decide (72 < t103.size) = true := decide_eq_true (by omega)
        clear c6
        have H' := Aside0.mk H
        clear H
        go_wp2
        go_meet
        case rel => exact ⟨_, (true), (by first | rfl | (simp; done) | (simp [*]; done)), H', ⟨by first | omega | exact Nat.le_refl _⟩, ⟨by repeat (first | (with_reducible first | exact HB.out | apply below_alloc | apply pw_below_drewN | apply below_drew1) | exact HB.out)⟩⟩
      · rw [if_neg c6] at H
        have c6b0 : decide (72 < (t103.size : Int)) = false := decide_eq_false c6
        have c6b1 : decide (72 < t103.size) = false := decide_eq_false (by omega)
        clear c6
        by_cases c7 : (Int.tmod (wrap64 ((wrap64 (a0)) + (t103.size : Int))) 64) = 0
        · rw [if_pos c7] at H
          have c7b0 : ((Int.tmod (wrap64 ((wrap64 (a0)) + (t103.size : Int))) 64) == 0) = true := beq_iff_eq.mpr c7
          have c7b1 : ((Int.tmod (wrap64 ((wrap64 (a0)) + (t103.size : Int))) 64) != 0) = false := bne_eq_false_iff_eq.mpr c7
          clear c7
          by_cases c8 : 0 < (t103.size : Int)
          · rw [if_pos c8] at H
            have c8b0 : decide (0 < (t103.size : Int)) = true := decide_eq_true c8
            have c8b1 : decide (0 < t103.size) = true := decide_eq_true (by omega)
            clear c8
            have H' := Aside0.mk H
            clear H
            have p9 : 0 ≤ (0 : Int) := (by omega)
            have q9 : 0 < t103.size := (by have : (0 : Int) < (t103.size : Int) := of_decide_eq_true (by first | (with_reducible assumption) | assumption); omega)
            have hx9 : ∀ h : 0 < t103.size, ((t103[0]'h).toNat : Int) = bt t103 0 := bt_at t103 0
            clear p9
            have qi9 : (0 < (t103.size : Int)) = True := eq_true (of_decide_eq_true (by first | (with_reducible assumption) | assumption))
            replace q9 := eq_true q9
            go_wp2
            go_meet
            case rel => exact ⟨_, (((bt t103 0) != 128)), (by first | rfl | (simp; done) | (simp [*]; done)), H', ⟨by first | omega | exact Nat.le_refl _⟩, ⟨by repeat (first | (with_reducible first | exact HB.out | apply below_alloc | apply pw_below_drewN | apply below_drew1) | exact HB.out)⟩⟩
          · rw [if_neg c8] at H
            exact absurd H (by simp)
        · rw [if_neg c7] at H
          have c7b0 : ((Int.tmod (wrap64 ((wrap64 (a0)) + (t103.size : Int))) 64) == 0) = false := beq_eq_false_iff_ne.mpr c7
          have c7b1 : ((Int.tmod (wrap64 ((wrap64 (a0)) + (t103.size : Int))) 64) != 0) = true := bne_iff_ne.mpr c7
          have H' := Aside0.mk H
          clear H
          go_wp2
          go_meet
          case rel => exact ⟨_, (true), (by first | rfl | (simp; done) | (simp [*]; done)), H', ⟨by first | omega | exact Nat.le_refl _⟩, ⟨by repeat (first | (with_reducible first | exact HB.out | apply below_alloc | apply pw_below_drewN | apply below_drew1) | exact HB.out)⟩⟩
  case rest =>
    clear HC3
    try clear c1
    try clear p2
    try clear c5
    try clear c5b0
    try clear c5b1
    try clear c6
    try clear c6b0
    try clear c6b1
    try clear p6
    try clear c7
    try clear c7b0
    try clear c7b1
    try clear c8
    try clear c8b0
    try clear c8b1
    try clear p9
    try clear q9
    try clear hx9
    try clear qi9
    try clear p9
    try clear q9
    obtain ⟨kq, x31_2, rfl, HA, HJ2, HB⟩ := hcut
    cases kq with
    | zero => exact absurd HA.out (by simp [umbellaw04_DigestPads.j0])
    | succ kj2 =>
      have H := HA.out
      clear HA
      simp only [umbellaw04_DigestPads.j0] at H
      by_cases c10 : x31_2 = true
      · subst c10
        have H1 : (some false) = some r := by rw [if_pos rfl] at H; exact H
        clear H
        have H := H1
        clear H1
        obtain rfl := Option.some.inj H
        go_wp2
        go_ret
        exact ⟨by first | rfl | (simp [errW_none, errW_some] <;> rfl) | (simp [*, errW_none, errW_some] <;> rfl), by repeat (first | (with_reducible first | exact HB.out | apply below_alloc | apply pw_below_drewN | apply below_drew1) | exact HB.out)⟩
      · replace c10 := Bool.eq_false_iff.mpr c10
        subst c10
        have H1 : (umbellaw04_DigestPads.l0 kj2 a0 t103 1) = some r := by rw [if_neg (show ¬ (false = true) by decide)] at H; exact H
        clear H
        have H := H1
        clear H1
        have H' := Aside0.mk H
        clear H
        go_wp2
        go_loopg [4] kj2 (fun kq v4 w' => ∃ (x4_2 : Int), v4 = .int .i64 x4_2 ∧ Aside0 (umbellaw04_DigestPads.l0 kq a0 t103 x4_2 = some r) ∧ Aside0 (kq ≤ kj2) ∧ Aside0 (Below w.heap.size w w'))
        case atStart => exact ⟨(1), (by first | rfl | (simp; done) | (simp [*]; done)), H', ⟨Nat.le_refl _⟩, ⟨by repeat (first | (with_reducible first | exact HB.out | apply below_alloc | apply pw_below_drewN | apply below_drew1) | exact HB.out)⟩⟩
        case round =>
          clear H'
          try clear c1
          try clear p2
          try clear c5
          try clear c5b0
          try clear c5b1
          try clear c6
          try clear c6b0
          try clear c6b1
          try clear p6
          try clear c7
          try clear c7b0
          try clear c7b1
          try clear c8
          try clear c8b0
          try clear c8b1
          try clear p9
          try clear q9
          try clear hx9
          try clear qi9
          try clear c10
          try clear p2
          try clear p6
          try clear p9
          try clear q9
          obtain ⟨x4_2, rfl, HA, HK2, HB⟩ := hrel
          cases gk with
          | zero => exact absurd HA.out (by simp [umbellaw04_DigestPads.l0])
          | succ k2 =>
            have H := HA.out
            clear HA
            simp only [umbellaw04_DigestPads.l0] at H
            by_cases c11 : x4_2 < (wrap64 ((t103.size : Int) - 8))
            · rw [if_pos c11] at H
              have c11b0 : decide (x4_2 < (wrap64 ((t103.size : Int) - 8))) = true := decide_eq_true c11
              clear c11
              by_cases c12 : 0 ≤ x4_2
              · rw [if_pos c12] at H
                have c12b0 : decide (0 ≤ x4_2) = true := decide_eq_true c12
                clear c12
                by_cases c13 : x4_2 < (t103.size : Int)
                · rw [if_pos c13] at H
                  have c13b0 : decide (x4_2 < (t103.size : Int)) = true := decide_eq_true c13
                  clear c13
                  by_cases c15 : (bt t103 x4_2) = 0
                  · rw [if_pos c15] at H
                    have c15b0 : ((bt t103 x4_2) == 0) = true := beq_iff_eq.mpr c15
                    have c15b1 : ((bt t103 x4_2) != 0) = false := bne_eq_false_iff_eq.mpr c15
                    clear c15
                    have H' := Aside0.mk H
                    clear H
                    have p14 : 0 ≤ (x4_2 : Int) := of_decide_eq_true (by first | (with_reducible assumption) | assumption)
                    have q14 : x4_2 < (t103.size : Int) := of_decide_eq_true (by first | (with_reducible assumption) | assumption)
                    have hx14 := bt_at t103 x4_2
                    replace p14 := eq_true p14
                    replace q14 := eq_true q14
                    go_wp2
                    go_roundg k2
                    case measure => have := HJ2.out; have := HK2.out; omega
                    case rel => exact ⟨(wrap64 (x4_2 + 1)), (by first | rfl | (simp; done) | (simp [*]; done)), H', ⟨by have := HJ2.out; have := HK2.out; omega⟩, ⟨by repeat (first | (with_reducible first | exact HB.out | apply below_alloc | apply pw_below_drewN | apply below_drew1) | exact HB.out)⟩⟩
                  · rw [if_neg c15] at H
                    have c15b0 : ((bt t103 x4_2) == 0) = false := beq_eq_false_iff_ne.mpr c15
                    have c15b1 : ((bt t103 x4_2) != 0) = true := bne_iff_ne.mpr c15
                    obtain rfl := Option.some.inj H
                    have p14 : 0 ≤ (x4_2 : Int) := of_decide_eq_true (by first | (with_reducible assumption) | assumption)
                    have q14 : x4_2 < (t103.size : Int) := of_decide_eq_true (by first | (with_reducible assumption) | assumption)
                    have hx14 := bt_at t103 x4_2
                    replace p14 := eq_true p14
                    replace q14 := eq_true q14
                    go_wp2
                    go_ret
                    exact ⟨by first | rfl | (simp [errW_none, errW_some] <;> rfl) | (simp [*, errW_none, errW_some] <;> rfl), by repeat (first | (with_reducible first | exact HB.out | apply below_alloc | apply pw_below_drewN | apply below_drew1) | exact HB.out)⟩
                · rw [if_neg c13] at H
                  exact absurd H (by simp)
              · rw [if_neg c12] at H
                exact absurd H (by simp)
            · rw [if_neg c11] at H
              have c11b0 : decide (x4_2 < (wrap64 ((t103.size : Int) - 8))) = false := decide_eq_false c11
              clear c11
              have H' := Aside0.mk H
              clear H
              go_wp2
              go_loopg [5, 6] k2 (fun kq v5 v6 w' => ∃ (x5_3 : Int) (x6_3 : Int), v5 = .int .u64 x5_3 ∧ v6 = .int .i64 x6_3 ∧ Aside0 (umbellaw04_DigestPads.l1 kq a0 t103 x5_3 x6_3 = some r) ∧ Aside0 (kq ≤ k2) ∧ Aside0 (Below w.heap.size w w'))
              case atStart => exact ⟨(0), (wrap64 ((t103.size : Int) - 8)), (by first | rfl | (simp; done) | (simp [*]; done)), (by first | rfl | (simp; done) | (simp [*]; done)), H', ⟨Nat.le_refl _⟩, ⟨by repeat (first | (with_reducible first | exact HB.out | apply below_alloc | apply pw_below_drewN | apply below_drew1) | exact HB.out)⟩⟩
              case round =>
                clear H'
                try clear c1
                try clear p1
                try clear q1
                try clear hx1
                try clear p2
                try clear c5
                try clear c5b0
                try clear c5b1
                try clear c6
                try clear c6b0
                try clear c6b1
                try clear p6
                try clear c7
                try clear c7b0
                try clear c7b1
                try clear c8
                try clear c8b0
                try clear c8b1
                try clear p9
                try clear q9
                try clear hx9
                try clear qi9
                try clear c10
                try clear c11
                try clear c11b0
                try clear c12
                try clear c12b0
                try clear c13
                try clear c13b0
                try clear p14
                try clear q14
                try clear hx14
                try clear c15
                try clear c15b0
                try clear c15b1
                try clear p14
                try clear p2
                try clear p6
                try clear p9
                try clear q14
                try clear q9
                obtain ⟨x5_3, x6_3, rfl, rfl, HA, HK3, HB⟩ := hrel
                cases gk with
                | zero => exact absurd HA.out (by simp [umbellaw04_DigestPads.l1])
                | succ k3 =>
                  have H := HA.out
                  clear HA
                  simp only [umbellaw04_DigestPads.l1] at H
                  by_cases c16 : x6_3 < (t103.size : Int)
                  · rw [if_pos c16] at H
                    have c16b0 : decide (x6_3 < (t103.size : Int)) = true := decide_eq_true c16
                    clear c16
                    by_cases c17 : 0 ≤ x6_3
                    · rw [if_pos c17] at H
                      have c17b0 : decide (0 ≤ x6_3) = true := decide_eq_true c17
                      clear c17
                      have H' := Aside0.mk H
                      clear H
                      have p18 : 0 ≤ (x6_3 : Int) := of_decide_eq_true (by first | (with_reducible assumption) | assumption)
                      have q18 : x6_3 < (t103.size : Int) := of_decide_eq_true (by first | (with_reducible assumption) | assumption)
                      have hx18 := bt_at t103 x6_3
                      replace p18 := eq_true p18
                      replace q18 := eq_true q18
                      go_wp2
                      go_roundg k3
                      case measure => have := HJ2.out; have := HK2.out; have := HK3.out; omega
                      case rel => exact ⟨(Go.bits .or .u64 (IntKind.u64.wrap (x5_3 * 256)) (IntKind.u64.wrap (bt t103 x6_3))), (wrap64 (x6_3 + 1)), (by first | rfl | (simp; done) | (simp [*]; done)), (by first | rfl | (simp; done) | (simp [*]; done)), H', ⟨by have := HJ2.out; have := HK2.out; have := HK3.out; omega⟩, ⟨by repeat (first | (with_reducible first | exact HB.out | apply below_alloc | apply pw_below_drewN | apply below_drew1) | exact HB.out)⟩⟩
                    · rw [if_neg c17] at H
                      exact absurd H (by simp)
                  · rw [if_neg c16] at H
                    have c16b0 : decide (x6_3 < (t103.size : Int)) = false := decide_eq_false c16
                    clear c16
                    by_cases c19 : x5_3 = (IntKind.u64.wrap (8 * (IntKind.u64.wrap (a0))))
                    · rw [if_pos c19] at H
                      have c19b0 : (x5_3 == (IntKind.u64.wrap (8 * (IntKind.u64.wrap (a0))))) = true := beq_iff_eq.mpr c19
                      have c19b1 : (x5_3 != (IntKind.u64.wrap (8 * (IntKind.u64.wrap (a0))))) = false := bne_eq_false_iff_eq.mpr c19
                      clear c19
                      replace H := Option.bind_eq_some_iff.mp H
                      obtain ⟨t104, A200, H⟩ := H
                      replace H : ((digest_Pad.f 0).bind fun t105 => (if t104.toList = t105.toList then ((umbellaw04_wakes.f).bind fun t106 => (some t106)) else (some false))) = some r := H
                      have A20 := Aside0.mk A200
                      clear A200
                      replace H := Option.bind_eq_some_iff.mp H
                      obtain ⟨t105, A210, H⟩ := H
                      replace H : (if t104.toList = t105.toList then ((umbellaw04_wakes.f).bind fun t106 => (some t106)) else (some false)) = some r := H
                      have A21 := Aside0.mk A210
                      clear A210
                      by_cases c22 : t104.toList = t105.toList
                      · rw [if_pos c22] at H
                        have c22b0 : (t104.toList == t105.toList) = true := beq_iff_eq.mpr c22
                        have c22b1 : (t104.toList != t105.toList) = false := bne_eq_false_iff_eq.mpr c22
                        clear c22
                        replace H := Option.bind_eq_some_iff.mp H
                        obtain ⟨t106, A230, H⟩ := H
                        replace H : (some t106) = some r := H
                        have A23 := Aside0.mk A230
                        clear A230
                        obtain rfl := Option.some.inj H
                        go_wp2_with (first | (go_at_call 15; (with_reducible refine (digest_Pad.calls (wrap64 ((wrap64 (-(wrap64 (a0)))) - 1)) t104 _ A20.out).mono ?_); rintro e w24 ⟨rfl, hb⟩; have n0_ := Aside0.mk (below_step (by repeat (first | (with_reducible first | exact HB.out | apply below_alloc | apply pw_below_drewN | apply below_drew1) | exact HB.out)) hb); clear HB; have HB := n0_; clear n0_; (try clear hb); (try clear hb2); (try clear hk); (try clear hi)) | (go_at_call 15; (with_reducible refine (digest_Pad.calls 0 t105 _ A21.out).mono ?_); rintro e w25 ⟨rfl, hb⟩; have n0_ := Aside0.mk (below_step (by repeat (first | (with_reducible first | exact HB.out | apply below_alloc | apply pw_below_drewN | apply below_drew1) | exact HB.out)) hb); clear HB; have HB := n0_; clear n0_; (try clear hb); (try clear hb2); (try clear hk); (try clear hi)) | (go_at_call 10; (with_reducible refine (umbellaw04_wakes.calls  t106 _ ?side1 A23.out).mono ?_); (case side1 => exact Glob.below HG.out (by repeat (first | (with_reducible first | exact HB.out | apply below_alloc | apply pw_below_drewN | apply below_drew1) | exact HB.out))); rintro e w26 ⟨rfl, hb⟩; have n0_ := Aside0.mk (below_step (by repeat (first | (with_reducible first | exact HB.out | apply below_alloc | apply pw_below_drewN | apply below_drew1) | exact HB.out)) hb); clear HB; have HB := n0_; clear n0_; (try clear hb); (try clear hb2); (try clear hk); (try clear hi)))
                        go_ret
                        exact ⟨by first | rfl | (simp [errW_none, errW_some] <;> rfl) | (simp [*, errW_none, errW_some] <;> rfl), by repeat (first | (with_reducible first | exact HB.out | apply below_alloc | apply pw_below_drewN | apply below_drew1) | exact HB.out)⟩
                      · rw [if_neg c22] at H
                        have c22b0 : (t104.toList == t105.toList) = false := beq_eq_false_iff_ne.mpr c22
                        have c22b1 : (t104.toList != t105.toList) = true := bne_iff_ne.mpr c22
                        obtain rfl := Option.some.inj H
                        go_wp2_with (first | (go_at_call 15; (with_reducible refine (digest_Pad.calls (wrap64 ((wrap64 (-(wrap64 (a0)))) - 1)) t104 _ A20.out).mono ?_); rintro e w27 ⟨rfl, hb⟩; have n0_ := Aside0.mk (below_step (by repeat (first | (with_reducible first | exact HB.out | apply below_alloc | apply pw_below_drewN | apply below_drew1) | exact HB.out)) hb); clear HB; have HB := n0_; clear n0_; (try clear hb); (try clear hb2); (try clear hk); (try clear hi)) | (go_at_call 15; (with_reducible refine (digest_Pad.calls 0 t105 _ A21.out).mono ?_); rintro e w28 ⟨rfl, hb⟩; have n0_ := Aside0.mk (below_step (by repeat (first | (with_reducible first | exact HB.out | apply below_alloc | apply pw_below_drewN | apply below_drew1) | exact HB.out)) hb); clear HB; have HB := n0_; clear n0_; (try clear hb); (try clear hb2); (try clear hk); (try clear hi)))
                        go_ret
                        exact ⟨by first | rfl | (simp [errW_none, errW_some] <;> rfl) | (simp [*, errW_none, errW_some] <;> rfl), by repeat (first | (with_reducible first | exact HB.out | apply below_alloc | apply pw_below_drewN | apply below_drew1) | exact HB.out)⟩
                    · rw [if_neg c19] at H
                      have c19b0 : (x5_3 == (IntKind.u64.wrap (8 * (IntKind.u64.wrap (a0))))) = false := beq_eq_false_iff_ne.mpr c19
                      have c19b1 : (x5_3 != (IntKind.u64.wrap (8 * (IntKind.u64.wrap (a0))))) = true := bne_iff_ne.mpr c19
                      obtain rfl := Option.some.inj H
                      go_wp2
                      go_ret
                      exact ⟨by first | rfl | (simp [errW_none, errW_some] <;> rfl) | (simp [*, errW_none, errW_some] <;> rfl), by repeat (first | (with_reducible first | exact HB.out | apply below_alloc | apply pw_below_drewN | apply below_drew1) | exact HB.out)⟩

/-- THE ONE PURE STATEMENT of umbellaw04_DigestPads: yours. -/
def umbellaw04_DigestPads.Pure : Prop := ∀ (a0 : Int), (Lit.int .u32 a0).wf = true → ∃ k, umbellaw04_DigestPads.f k a0 = some true
theorem umbellaw04_DigestPads.walk (P : umbellaw04_DigestPads.Pure) (a0 : Int) (w : World) (hG : Glob w) (w0 : (Lit.int .u32 a0).wf = true) :
    Calls Tryd.prog 5 #[.int .u32 a0] w fun e w' => e = .returned (.bool true) ∧ Below w.heap.size w w' := by
  obtain ⟨k, h⟩ := P a0 w0
  refine (umbellaw04_DigestPads.calls k a0 true w hG h).mono ?_
  rintro e w' ⟨rfl, hd⟩
  exact ⟨rfl, hd⟩

end Go.Proofs.YtbphehijikdkjaaDoor.PDgl
