/-
  Contracts of the reference's functions that only compute: the world stays the very same.
-/
import Derived.Test.YtbphehijikdkjaaDoorPDgsx
namespace Go.Proofs.YtbphehijikdkjaaDoor.PDgs
open Go.RowKit Go.Proofs.YtbphehijikdkjaaDoorW.PrintWords Go.Proofs.YtbphehijikdkjaaDoorW.PrintLast Go.Proofs.YtbphehijikdkjaaDoorW.PrintMore
attribute [local go_sem] max2_int min2_int max_two min_two max_three min_three max_four min_four   -- for this text's walks alone
set_option linter.unusedVariables false
set_option linter.unusedSimpArgs false
open Go.Proofs.YtbphehijikdkjaaDoor.HW

set_option maxHeartbeats 8000000 in
set_option maxRecDepth 100000 in
theorem umbelref04_turn.same (a0 : Int) (a1 : Int) (r : Int) (w : World) (h : umbelref04_turn.f a0 a1 = some r) :
    Calls Tryd.prog 44 #[.int .u32 a0, .int .u64 a1] w fun e w' => e = .returned (.int .u32 r) ∧ w' = w := by
  have H : (if 0 ≤ a1 then (if 0 ≤ (IntKind.u64.wrap (32 - a1)) then (some (Go.bits .or .u32 (shr .u32 a0 a1) (shl .u32 a0 (IntKind.u64.wrap (32 - a1))))) else (none)) else (none)) = some r := h
  clear h
  by_cases c3 : 0 ≤ a1
  · rw [if_pos c3] at H
    have c3b0 := eq_true c3
    have c3b1 : decide (0 ≤ a1) = true := decide_eq_true c3
    clear c3
    obtain ⟨ji4, hji4⟩ : ∃ j_ : Int, (shr .u32 a0 a1) = j_ := ⟨_, rfl⟩
    replace H : (if 0 ≤ (IntKind.u64.wrap (32 - a1)) then (some (Go.bits .or .u32 (ji4) (shl .u32 a0 (IntKind.u64.wrap (32 - a1))))) else (none)) = some r := by first | (rw [hji4] at H; exact H) | (simp only [hji4] at H ⊢; exact H)
    have hji4_ : (a0 / 2 ^ min a1.toNat 32) = ji4 := hji4
    have hji4z : a1 ≤ 32 → (a0 / 2 ^ a1.toNat) = ji4 := shr_small hji4
    obtain ⟨ji5, hji5⟩ : ∃ j_ : Int, (IntKind.u64.wrap (32 - a1)) = j_ := ⟨_, rfl⟩
    replace H : (if 0 ≤ (ji5) then (some (Go.bits .or .u32 (ji4) (shl .u32 a0 (ji5)))) else (none)) = some r := by first | (rw [hji5] at H; exact H) | (simp only [hji5] at H ⊢; exact H)
    by_cases c6 : 0 ≤ (ji5)
    · rw [if_pos c6] at H
      have c6b0 := eq_true c6
      have c6b1 : decide (0 ≤ (ji5)) = true := decide_eq_true c6
      clear c6
      obtain ⟨ji7, hji7⟩ : ∃ j_ : Int, (shl .u32 a0 (ji5)) = j_ := ⟨_, rfl⟩
      replace H : (some (Go.bits .or .u32 (ji4) (ji7))) = some r := by first | (rw [hji7] at H; exact H) | (simp only [hji7] at H ⊢; exact H)
      have hji7_ : (IntKind.u32.wrap (a0 * 2 ^ min (ji5).toNat 32)) = ji7 := hji7
      have hji7z : (ji5) ≤ 32 → (IntKind.u32.wrap (a0 * 2 ^ (ji5).toNat)) = ji7 := shl_small hji7
      obtain rfl := Option.some.inj H
      go_enter Tryd.func44, Tryd.ntmps44
      go_wp2
      go_ret
      exact ⟨by first | rfl | (simp; done) | (simp only [← hji4, ← hji5, ← hji7] <;> (first | rfl | simp)) | (simp [*]; done), rfl⟩
    · rw [if_neg c6] at H
      exact absurd H (by simp)
  · rw [if_neg c3] at H
    exact absurd H (by simp)

set_option maxHeartbeats 8000000 in
set_option maxRecDepth 100000 in
theorem umbelref04_times.same (a0 : Int) (a1 : Int) (r1 : Int) (r2 : Int) (w : World) (h : umbelref04_times.f a0 a1 = some (r1, r2)) :
    Calls Tryd.prog 48 #[.int .u64 a0, .int .u64 a1] w fun e w' => e = .returned (.tuple #[.int .u64 r1, .int .u64 r2]) ∧ w' = w := by
  have H : (some (IntKind.u64.wrap ((IntKind.u64.wrap ((IntKind.u64.wrap ((IntKind.u64.wrap ((a0 / 4294967296) * (a1 / 4294967296))) + ((IntKind.u64.wrap ((Go.bits .and .u64 a0 4294967295) * (a1 / 4294967296))) / 4294967296))) + ((IntKind.u64.wrap ((a0 / 4294967296) * (Go.bits .and .u64 a1 4294967295))) / 4294967296))) + ((IntKind.u64.wrap ((IntKind.u64.wrap (((IntKind.u64.wrap ((Go.bits .and .u64 a0 4294967295) * (Go.bits .and .u64 a1 4294967295))) / 4294967296) + (Go.bits .and .u64 (IntKind.u64.wrap ((Go.bits .and .u64 a0 4294967295) * (a1 / 4294967296))) 4294967295))) + (Go.bits .and .u64 (IntKind.u64.wrap ((a0 / 4294967296) * (Go.bits .and .u64 a1 4294967295))) 4294967295))) / 4294967296)), Go.bits .or .u64 (Go.bits .and .u64 (IntKind.u64.wrap ((Go.bits .and .u64 a0 4294967295) * (Go.bits .and .u64 a1 4294967295))) 4294967295) (IntKind.u64.wrap ((IntKind.u64.wrap ((IntKind.u64.wrap (((IntKind.u64.wrap ((Go.bits .and .u64 a0 4294967295) * (Go.bits .and .u64 a1 4294967295))) / 4294967296) + (Go.bits .and .u64 (IntKind.u64.wrap ((Go.bits .and .u64 a0 4294967295) * (a1 / 4294967296))) 4294967295))) + (Go.bits .and .u64 (IntKind.u64.wrap ((a0 / 4294967296) * (Go.bits .and .u64 a1 4294967295))) 4294967295))) * 4294967296)))) = some (r1, r2) := h
  clear h
  simp only [Option.some.injEq, Prod.mk.injEq] at H
  obtain ⟨rfl, rfl⟩ := H
  go_enter Tryd.func48, Tryd.ntmps48
  go_wp2
  go_ret2
  exact ⟨by first | rfl | (simp; done) | (simp [*]; done), rfl⟩

set_option maxHeartbeats 8000000 in
set_option maxRecDepth 100000 in
theorem umbelref04_square.same (k : Nat) (a0 : Int) (r : Int) (w : World) (h : umbelref04_square.f k a0 = some r) :
    Calls Tryd.prog 40 #[.int .u64 a0] w fun e w' => e = .returned (.int .u32 r) ∧ w' = w := by
  have H : (umbelref04_square.l0 k a0 0 36) = some r := h
  clear h
  have H' := Aside0.mk H
  clear H
  go_enter Tryd.func40, Tryd.ntmps40
  go_wp2
  go_loopg [3, 4] k (fun kq v3 v4 w' => ∃ (x3_1 : Int) (x4_1 : Int), v3 = .int .u64 x3_1 ∧ v4 = .int .i64 x4_1 ∧ Aside0 (umbelref04_square.l0 kq a0 x3_1 x4_1 = some r) ∧ Aside0 (kq ≤ k) ∧ w' = w)
  case atStart => exact ⟨(0), (36), (by first | rfl | (simp; done) | (simp [*]; done)), (by first | rfl | (simp; done) | (simp [*]; done)), H', ⟨Nat.le_refl _⟩, rfl⟩
  case round =>
    clear H'
    obtain ⟨x3_1, x4_1, rfl, rfl, HA, HK1, rfl⟩ := hrel
    cases gk with
    | zero => exact absurd HA.out (by simp [umbelref04_square.l0])
    | succ k1 =>
      have H := HA.out
      clear HA
      simp only [umbelref04_square.l0] at H
      by_cases c2 : x4_1 ≥ 0
      · rw [if_pos c2] at H
        have c2b0 : decide (0 ≤ x4_1) = true := decide_eq_true c2
        clear c2
        obtain ⟨ji3, hji3⟩ : ∃ j_ : Int, (IntKind.u64.wrap (x4_1)) = j_ := ⟨_, rfl⟩
        replace H : (if 0 ≤ (ji3) then ((umbelref04_times.f (Go.bits .or .u64 x3_1 (shl .u64 1 (ji3))) (Go.bits .or .u64 x3_1 (shl .u64 1 (ji3)))).bind fun bt123 => (if bt123.1 < a0 then (umbelref04_square.l0 k1 a0 (Go.bits .or .u64 x3_1 (shl .u64 1 (ji3))) (wrap64 (x4_1 - 1))) else (if bt123.1 = a0 then (if bt123.2 = 0 then (umbelref04_square.l0 k1 a0 (Go.bits .or .u64 x3_1 (shl .u64 1 (ji3))) (wrap64 (x4_1 - 1))) else (umbelref04_square.l0 k1 a0 x3_1 (wrap64 (x4_1 - 1)))) else (umbelref04_square.l0 k1 a0 x3_1 (wrap64 (x4_1 - 1)))))) else (none)) = some r := by first | (rw [hji3] at H; exact H) | (simp only [hji3] at H ⊢; exact H)
        by_cases c4 : 0 ≤ (ji3)
        · rw [if_pos c4] at H
          have c4b0 := eq_true c4
          have c4b1 : decide (0 ≤ (ji3)) = true := decide_eq_true c4
          clear c4
          obtain ⟨ji5, hji5⟩ : ∃ j_ : Int, (shl .u64 1 (ji3)) = j_ := ⟨_, rfl⟩
          replace H : ((umbelref04_times.f (Go.bits .or .u64 x3_1 (ji5)) (Go.bits .or .u64 x3_1 (ji5))).bind fun bt123 => (if bt123.1 < a0 then (umbelref04_square.l0 k1 a0 (Go.bits .or .u64 x3_1 (ji5)) (wrap64 (x4_1 - 1))) else (if bt123.1 = a0 then (if bt123.2 = 0 then (umbelref04_square.l0 k1 a0 (Go.bits .or .u64 x3_1 (ji5)) (wrap64 (x4_1 - 1))) else (umbelref04_square.l0 k1 a0 x3_1 (wrap64 (x4_1 - 1)))) else (umbelref04_square.l0 k1 a0 x3_1 (wrap64 (x4_1 - 1)))))) = some r := by first | (rw [hji5] at H; exact H) | (simp only [hji5] at H ⊢; exact H)
          have hji5_ : (IntKind.u64.wrap (1 * 2 ^ min (ji3).toNat 64)) = ji5 := hji5
          have hji5z : (ji3) ≤ 64 → (IntKind.u64.wrap (1 * 2 ^ (ji3).toNat)) = ji5 := shl_small hji5
          have hji5u : (IntKind.u64.wrap (2 ^ min (ji3).toNat 64)) = ji5 := by have h_ := hji5_; rw [Int.one_mul] at h_; exact h_
          have hji5v : (ji3) ≤ 64 → (IntKind.u64.wrap (2 ^ (ji3).toNat)) = ji5 := fun hle_ => by have h_ := hji5z hle_; rw [Int.one_mul] at h_; exact h_
          replace H := Option.bind_eq_some_iff.mp H
          obtain ⟨⟨t123, t124⟩, A60, H⟩ := H
          replace H : (if t123 < a0 then (umbelref04_square.l0 k1 a0 (Go.bits .or .u64 x3_1 (ji5)) (wrap64 (x4_1 - 1))) else (if t123 = a0 then (if t124 = 0 then (umbelref04_square.l0 k1 a0 (Go.bits .or .u64 x3_1 (ji5)) (wrap64 (x4_1 - 1))) else (umbelref04_square.l0 k1 a0 x3_1 (wrap64 (x4_1 - 1)))) else (umbelref04_square.l0 k1 a0 x3_1 (wrap64 (x4_1 - 1))))) = some r := H
          have A6 := Aside0.mk A60
          clear A60
          by_cases c7 : t123 < a0
          · rw [if_pos c7] at H
            have c7b0 : decide (t123 < a0) = true := decide_eq_true c7
            clear c7
            have H' := Aside0.mk H
            clear H
            go_wp2_with (first | ((with_reducible refine gate_callee (f := 48) rfl ?_); refine goesL_ (some 20) rfl rfl Tryd.func48 (by kernel_rfl) rfl #[.int .u64 (Go.bits .or .u64 x3_1 (ji5)), .int .u64 (Go.bits .or .u64 x3_1 (ji5))] rfl (by (try simp only [List.map_toArray, List.map_cons, List.map_nil]); first | done | (simp only [hji5]; rfl) | rfl | (simp only [List.length_drop, List.length_take]; rfl)) ?_; (with_reducible refine (umbelref04_times.same (Go.bits .or .u64 x3_1 (ji5)) (Go.bits .or .u64 x3_1 (ji5)) t123 t124 _ A6.out).mono ?_); rintro e w' ⟨rfl, rfl⟩; refine ⟨_, rfl, ?_⟩))
            go_roundg k1
            case measure => have := HK1.out; omega
            case rel => exact ⟨(Go.bits .or .u64 x3_1 (ji5)), (wrap64 (x4_1 - 1)), (by first | rfl | (simp; done) | (simp only [← hji5] <;> (first | rfl | simp)) | (simp [*]; done)), (by first | rfl | (simp; done) | (simp [*]; done)), H', ⟨by have := HK1.out; omega⟩, rfl⟩
          · rw [if_neg c7] at H
            have c7b0 : decide (t123 < a0) = false := decide_eq_false c7
            clear c7
            by_cases c8 : t123 = a0
            · rw [if_pos c8] at H
              have c8b0 : (t123 == a0) = true := beq_iff_eq.mpr c8
              have c8b1 : (t123 != a0) = false := bne_eq_false_iff_eq.mpr c8
              clear c8
              by_cases c9 : t124 = 0
              · rw [if_pos c9] at H
                have c9b0 : (t124 == 0) = true := beq_iff_eq.mpr c9
                have c9b1 : (t124 != 0) = false := bne_eq_false_iff_eq.mpr c9
                clear c9
                have H' := Aside0.mk H
                clear H
                go_wp2_with (first | ((with_reducible refine gate_callee (f := 48) rfl ?_); refine goesL_ (some 20) rfl rfl Tryd.func48 (by kernel_rfl) rfl #[.int .u64 (Go.bits .or .u64 x3_1 (ji5)), .int .u64 (Go.bits .or .u64 x3_1 (ji5))] rfl (by (try simp only [List.map_toArray, List.map_cons, List.map_nil]); first | done | (simp only [hji5]; rfl) | rfl | (simp only [List.length_drop, List.length_take]; rfl)) ?_; (with_reducible refine (umbelref04_times.same (Go.bits .or .u64 x3_1 (ji5)) (Go.bits .or .u64 x3_1 (ji5)) t123 t124 _ A6.out).mono ?_); rintro e w' ⟨rfl, rfl⟩; refine ⟨_, rfl, ?_⟩))
                go_roundg k1
                case measure => have := HK1.out; omega
                case rel => exact ⟨(Go.bits .or .u64 x3_1 (ji5)), (wrap64 (x4_1 - 1)), (by first | rfl | (simp; done) | (simp only [← hji5] <;> (first | rfl | simp)) | (simp [*]; done)), (by first | rfl | (simp; done) | (simp [*]; done)), H', ⟨by have := HK1.out; omega⟩, rfl⟩
              · rw [if_neg c9] at H
                have c9b0 : (t124 == 0) = false := beq_eq_false_iff_ne.mpr c9
                have c9b1 : (t124 != 0) = true := bne_iff_ne.mpr c9
                have H' := Aside0.mk H
                clear H
                go_wp2_with (first | ((with_reducible refine gate_callee (f := 48) rfl ?_); refine goesL_ (some 20) rfl rfl Tryd.func48 (by kernel_rfl) rfl #[.int .u64 (Go.bits .or .u64 x3_1 (ji5)), .int .u64 (Go.bits .or .u64 x3_1 (ji5))] rfl (by (try simp only [List.map_toArray, List.map_cons, List.map_nil]); first | done | (simp only [hji5]; rfl) | rfl | (simp only [List.length_drop, List.length_take]; rfl)) ?_; (with_reducible refine (umbelref04_times.same (Go.bits .or .u64 x3_1 (ji5)) (Go.bits .or .u64 x3_1 (ji5)) t123 t124 _ A6.out).mono ?_); rintro e w' ⟨rfl, rfl⟩; refine ⟨_, rfl, ?_⟩))
                go_roundg k1
                case measure => have := HK1.out; omega
                case rel => exact ⟨(x3_1), (wrap64 (x4_1 - 1)), (by first | rfl | (simp; done) | (simp [*]; done)), (by first | rfl | (simp; done) | (simp [*]; done)), H', ⟨by have := HK1.out; omega⟩, rfl⟩
            · rw [if_neg c8] at H
              have c8b0 : (t123 == a0) = false := beq_eq_false_iff_ne.mpr c8
              have c8b1 : (t123 != a0) = true := bne_iff_ne.mpr c8
              have H' := Aside0.mk H
              clear H
              go_wp2_with (first | ((with_reducible refine gate_callee (f := 48) rfl ?_); refine goesL_ (some 20) rfl rfl Tryd.func48 (by kernel_rfl) rfl #[.int .u64 (Go.bits .or .u64 x3_1 (ji5)), .int .u64 (Go.bits .or .u64 x3_1 (ji5))] rfl (by (try simp only [List.map_toArray, List.map_cons, List.map_nil]); first | done | (simp only [hji5]; rfl) | rfl | (simp only [List.length_drop, List.length_take]; rfl)) ?_; (with_reducible refine (umbelref04_times.same (Go.bits .or .u64 x3_1 (ji5)) (Go.bits .or .u64 x3_1 (ji5)) t123 t124 _ A6.out).mono ?_); rintro e w' ⟨rfl, rfl⟩; refine ⟨_, rfl, ?_⟩))
              go_roundg k1
              case measure => have := HK1.out; omega
              case rel => exact ⟨(x3_1), (wrap64 (x4_1 - 1)), (by first | rfl | (simp; done) | (simp [*]; done)), (by first | rfl | (simp; done) | (simp [*]; done)), H', ⟨by have := HK1.out; omega⟩, rfl⟩
        · rw [if_neg c4] at H
          exact absurd H (by simp)
      · rw [if_neg c2] at H
        have c2b0 : decide (0 ≤ x4_1) = false := decide_eq_false c2
        clear c2
        obtain rfl := Option.some.inj H
        go_wp2
        go_ret
        exact ⟨by first | rfl | (simp; done) | (simp [*]; done), rfl⟩

set_option maxHeartbeats 8000000 in
set_option maxRecDepth 100000 in
theorem umbelref04_cube.same (k : Nat) (a0 : Int) (r : Int) (w : World) (h : umbelref04_cube.f k a0 = some r) :
    Calls Tryd.prog 41 #[.int .u64 a0] w fun e w' => e = .returned (.int .u32 r) ∧ w' = w := by
  have H : (umbelref04_cube.l0 k a0 0 35) = some r := h
  clear h
  have H' := Aside0.mk H
  clear H
  go_enter Tryd.func41, Tryd.ntmps41
  go_wp2
  go_loopg [3, 4] k (fun kq v3 v4 w' => ∃ (x3_1 : Int) (x4_1 : Int), v3 = .int .u64 x3_1 ∧ v4 = .int .i64 x4_1 ∧ Aside0 (umbelref04_cube.l0 kq a0 x3_1 x4_1 = some r) ∧ Aside0 (kq ≤ k) ∧ w' = w)
  case atStart => exact ⟨(0), (35), (by first | rfl | (simp; done) | (simp [*]; done)), (by first | rfl | (simp; done) | (simp [*]; done)), H', ⟨Nat.le_refl _⟩, rfl⟩
  case round =>
    clear H'
    obtain ⟨x3_1, x4_1, rfl, rfl, HA, HK1, rfl⟩ := hrel
    cases gk with
    | zero => exact absurd HA.out (by simp [umbelref04_cube.l0])
    | succ k1 =>
      have H := HA.out
      clear HA
      simp only [umbelref04_cube.l0] at H
      by_cases c2 : x4_1 ≥ 0
      · rw [if_pos c2] at H
        have c2b0 : decide (0 ≤ x4_1) = true := decide_eq_true c2
        clear c2
        obtain ⟨ji3, hji3⟩ : ∃ j_ : Int, (IntKind.u64.wrap (x4_1)) = j_ := ⟨_, rfl⟩
        replace H : (if 0 ≤ (ji3) then ((umbelref04_times.f (Go.bits .or .u64 x3_1 (shl .u64 1 (ji3))) (Go.bits .or .u64 x3_1 (shl .u64 1 (ji3)))).bind fun bt125 => ((umbelref04_times.f bt125.2 (Go.bits .or .u64 x3_1 (shl .u64 1 (ji3)))).bind fun bt127 => ((umbelref04_times.f bt125.1 (Go.bits .or .u64 x3_1 (shl .u64 1 (ji3)))).bind fun bt129 => (if (IntKind.u64.wrap (bt127.1 + bt129.2)) < (IntKind.u64.wrap (a0 * 4294967296)) then (umbelref04_cube.l0 k1 a0 (Go.bits .or .u64 x3_1 (shl .u64 1 (ji3))) (wrap64 (x4_1 - 1))) else (if (IntKind.u64.wrap (bt127.1 + bt129.2)) = (IntKind.u64.wrap (a0 * 4294967296)) then (if bt127.2 = 0 then (umbelref04_cube.l0 k1 a0 (Go.bits .or .u64 x3_1 (shl .u64 1 (ji3))) (wrap64 (x4_1 - 1))) else (umbelref04_cube.l0 k1 a0 x3_1 (wrap64 (x4_1 - 1)))) else (umbelref04_cube.l0 k1 a0 x3_1 (wrap64 (x4_1 - 1)))))))) else (none)) = some r := by first | (rw [hji3] at H; exact H) | (simp only [hji3] at H ⊢; exact H)
        by_cases c4 : 0 ≤ (ji3)
        · rw [if_pos c4] at H
          have c4b0 := eq_true c4
          have c4b1 : decide (0 ≤ (ji3)) = true := decide_eq_true c4
          clear c4
          obtain ⟨ji5, hji5⟩ : ∃ j_ : Int, (shl .u64 1 (ji3)) = j_ := ⟨_, rfl⟩
          replace H : ((umbelref04_times.f (Go.bits .or .u64 x3_1 (ji5)) (Go.bits .or .u64 x3_1 (ji5))).bind fun bt125 => ((umbelref04_times.f bt125.2 (Go.bits .or .u64 x3_1 (ji5))).bind fun bt127 => ((umbelref04_times.f bt125.1 (Go.bits .or .u64 x3_1 (ji5))).bind fun bt129 => (if (IntKind.u64.wrap (bt127.1 + bt129.2)) < (IntKind.u64.wrap (a0 * 4294967296)) then (umbelref04_cube.l0 k1 a0 (Go.bits .or .u64 x3_1 (ji5)) (wrap64 (x4_1 - 1))) else (if (IntKind.u64.wrap (bt127.1 + bt129.2)) = (IntKind.u64.wrap (a0 * 4294967296)) then (if bt127.2 = 0 then (umbelref04_cube.l0 k1 a0 (Go.bits .or .u64 x3_1 (ji5)) (wrap64 (x4_1 - 1))) else (umbelref04_cube.l0 k1 a0 x3_1 (wrap64 (x4_1 - 1)))) else (umbelref04_cube.l0 k1 a0 x3_1 (wrap64 (x4_1 - 1)))))))) = some r := by first | (rw [hji5] at H; exact H) | (simp only [hji5] at H ⊢; exact H)
          have hji5_ : (IntKind.u64.wrap (1 * 2 ^ min (ji3).toNat 64)) = ji5 := hji5
          have hji5z : (ji3) ≤ 64 → (IntKind.u64.wrap (1 * 2 ^ (ji3).toNat)) = ji5 := shl_small hji5
          have hji5u : (IntKind.u64.wrap (2 ^ min (ji3).toNat 64)) = ji5 := by have h_ := hji5_; rw [Int.one_mul] at h_; exact h_
          have hji5v : (ji3) ≤ 64 → (IntKind.u64.wrap (2 ^ (ji3).toNat)) = ji5 := fun hle_ => by have h_ := hji5z hle_; rw [Int.one_mul] at h_; exact h_
          replace H := Option.bind_eq_some_iff.mp H
          obtain ⟨⟨t125, t126⟩, A60, H⟩ := H
          replace H : ((umbelref04_times.f t126 (Go.bits .or .u64 x3_1 (ji5))).bind fun bt127 => ((umbelref04_times.f t125 (Go.bits .or .u64 x3_1 (ji5))).bind fun bt129 => (if (IntKind.u64.wrap (bt127.1 + bt129.2)) < (IntKind.u64.wrap (a0 * 4294967296)) then (umbelref04_cube.l0 k1 a0 (Go.bits .or .u64 x3_1 (ji5)) (wrap64 (x4_1 - 1))) else (if (IntKind.u64.wrap (bt127.1 + bt129.2)) = (IntKind.u64.wrap (a0 * 4294967296)) then (if bt127.2 = 0 then (umbelref04_cube.l0 k1 a0 (Go.bits .or .u64 x3_1 (ji5)) (wrap64 (x4_1 - 1))) else (umbelref04_cube.l0 k1 a0 x3_1 (wrap64 (x4_1 - 1)))) else (umbelref04_cube.l0 k1 a0 x3_1 (wrap64 (x4_1 - 1))))))) = some r := H
          have A6 := Aside0.mk A60
          clear A60
          replace H := Option.bind_eq_some_iff.mp H
          obtain ⟨⟨t127, t128⟩, A70, H⟩ := H
          replace H : ((umbelref04_times.f t125 (Go.bits .or .u64 x3_1 (ji5))).bind fun bt129 => (if (IntKind.u64.wrap (t127 + bt129.2)) < (IntKind.u64.wrap (a0 * 4294967296)) then (umbelref04_cube.l0 k1 a0 (Go.bits .or .u64 x3_1 (ji5)) (wrap64 (x4_1 - 1))) else (if (IntKind.u64.wrap (t127 + bt129.2)) = (IntKind.u64.wrap (a0 * 4294967296)) then (if t128 = 0 then (umbelref04_cube.l0 k1 a0 (Go.bits .or .u64 x3_1 (ji5)) (wrap64 (x4_1 - 1))) else (umbelref04_cube.l0 k1 a0 x3_1 (wrap64 (x4_1 - 1)))) else (umbelref04_cube.l0 k1 a0 x3_1 (wrap64 (x4_1 - 1)))))) = some r := H
          have A7 := Aside0.mk A70
          clear A70
          replace H := Option.bind_eq_some_iff.mp H
          obtain ⟨⟨t129, t130⟩, A80, H⟩ := H
          replace H : (if (IntKind.u64.wrap (t127 + t130)) < (IntKind.u64.wrap (a0 * 4294967296)) then (umbelref04_cube.l0 k1 a0 (Go.bits .or .u64 x3_1 (ji5)) (wrap64 (x4_1 - 1))) else (if (IntKind.u64.wrap (t127 + t130)) = (IntKind.u64.wrap (a0 * 4294967296)) then (if t128 = 0 then (umbelref04_cube.l0 k1 a0 (Go.bits .or .u64 x3_1 (ji5)) (wrap64 (x4_1 - 1))) else (umbelref04_cube.l0 k1 a0 x3_1 (wrap64 (x4_1 - 1)))) else (umbelref04_cube.l0 k1 a0 x3_1 (wrap64 (x4_1 - 1))))) = some r := H
          have A8 := Aside0.mk A80
          clear A80
          by_cases c9 : (IntKind.u64.wrap (t127 + t130)) < (IntKind.u64.wrap (a0 * 4294967296))
          · rw [if_pos c9] at H
            have c9b0 : decide ((IntKind.u64.wrap (t127 + t130)) < (IntKind.u64.wrap (a0 * 4294967296))) = true := decide_eq_true c9
            clear c9
            have H' := Aside0.mk H
            clear H
            go_wp2_with (first | ((with_reducible refine gate_callee (f := 48) rfl ?_); refine goesL_ (some 26) rfl rfl Tryd.func48 (by kernel_rfl) rfl #[.int .u64 (Go.bits .or .u64 x3_1 (ji5)), .int .u64 (Go.bits .or .u64 x3_1 (ji5))] rfl (by (try simp only [List.map_toArray, List.map_cons, List.map_nil]); first | done | (simp only [hji5]; rfl) | rfl | (simp only [List.length_drop, List.length_take]; rfl)) ?_; (with_reducible refine (umbelref04_times.same (Go.bits .or .u64 x3_1 (ji5)) (Go.bits .or .u64 x3_1 (ji5)) t125 t126 _ A6.out).mono ?_); rintro e w' ⟨rfl, rfl⟩; refine ⟨_, rfl, ?_⟩) | ((with_reducible refine gate_callee (f := 48) rfl ?_); refine goesL_ (some 32) rfl rfl Tryd.func48 (by kernel_rfl) rfl #[.int .u64 t126, .int .u64 (Go.bits .or .u64 x3_1 (ji5))] rfl (by (try simp only [List.map_toArray, List.map_cons, List.map_nil]); first | done | (simp only [hji5]; rfl) | rfl | (simp only [List.length_drop, List.length_take]; rfl)) ?_; (with_reducible refine (umbelref04_times.same t126 (Go.bits .or .u64 x3_1 (ji5)) t127 t128 _ A7.out).mono ?_); rintro e w' ⟨rfl, rfl⟩; refine ⟨_, rfl, ?_⟩) | ((with_reducible refine gate_callee (f := 48) rfl ?_); refine goesL_ (some 38) rfl rfl Tryd.func48 (by kernel_rfl) rfl #[.int .u64 t125, .int .u64 (Go.bits .or .u64 x3_1 (ji5))] rfl (by (try simp only [List.map_toArray, List.map_cons, List.map_nil]); first | done | (simp only [hji5]; rfl) | rfl | (simp only [List.length_drop, List.length_take]; rfl)) ?_; (with_reducible refine (umbelref04_times.same t125 (Go.bits .or .u64 x3_1 (ji5)) t129 t130 _ A8.out).mono ?_); rintro e w' ⟨rfl, rfl⟩; refine ⟨_, rfl, ?_⟩))
            go_roundg k1
            case measure => have := HK1.out; omega
            case rel => exact ⟨(Go.bits .or .u64 x3_1 (ji5)), (wrap64 (x4_1 - 1)), (by first | rfl | (simp; done) | (simp only [← hji5] <;> (first | rfl | simp)) | (simp [*]; done)), (by first | rfl | (simp; done) | (simp [*]; done)), H', ⟨by have := HK1.out; omega⟩, rfl⟩
          · rw [if_neg c9] at H
            have c9b0 : decide ((IntKind.u64.wrap (t127 + t130)) < (IntKind.u64.wrap (a0 * 4294967296))) = false := decide_eq_false c9
            clear c9
            by_cases c10 : (IntKind.u64.wrap (t127 + t130)) = (IntKind.u64.wrap (a0 * 4294967296))
            · rw [if_pos c10] at H
              have c10b0 : ((IntKind.u64.wrap (t127 + t130)) == (IntKind.u64.wrap (a0 * 4294967296))) = true := beq_iff_eq.mpr c10
              have c10b1 : ((IntKind.u64.wrap (t127 + t130)) != (IntKind.u64.wrap (a0 * 4294967296))) = false := bne_eq_false_iff_eq.mpr c10
              clear c10
              by_cases c11 : t128 = 0
              · rw [if_pos c11] at H
                have c11b0 : (t128 == 0) = true := beq_iff_eq.mpr c11
                have c11b1 : (t128 != 0) = false := bne_eq_false_iff_eq.mpr c11
                clear c11
                have H' := Aside0.mk H
                clear H
                go_wp2_with (first | ((with_reducible refine gate_callee (f := 48) rfl ?_); refine goesL_ (some 26) rfl rfl Tryd.func48 (by kernel_rfl) rfl #[.int .u64 (Go.bits .or .u64 x3_1 (ji5)), .int .u64 (Go.bits .or .u64 x3_1 (ji5))] rfl (by (try simp only [List.map_toArray, List.map_cons, List.map_nil]); first | done | (simp only [hji5]; rfl) | rfl | (simp only [List.length_drop, List.length_take]; rfl)) ?_; (with_reducible refine (umbelref04_times.same (Go.bits .or .u64 x3_1 (ji5)) (Go.bits .or .u64 x3_1 (ji5)) t125 t126 _ A6.out).mono ?_); rintro e w' ⟨rfl, rfl⟩; refine ⟨_, rfl, ?_⟩) | ((with_reducible refine gate_callee (f := 48) rfl ?_); refine goesL_ (some 32) rfl rfl Tryd.func48 (by kernel_rfl) rfl #[.int .u64 t126, .int .u64 (Go.bits .or .u64 x3_1 (ji5))] rfl (by (try simp only [List.map_toArray, List.map_cons, List.map_nil]); first | done | (simp only [hji5]; rfl) | rfl | (simp only [List.length_drop, List.length_take]; rfl)) ?_; (with_reducible refine (umbelref04_times.same t126 (Go.bits .or .u64 x3_1 (ji5)) t127 t128 _ A7.out).mono ?_); rintro e w' ⟨rfl, rfl⟩; refine ⟨_, rfl, ?_⟩) | ((with_reducible refine gate_callee (f := 48) rfl ?_); refine goesL_ (some 38) rfl rfl Tryd.func48 (by kernel_rfl) rfl #[.int .u64 t125, .int .u64 (Go.bits .or .u64 x3_1 (ji5))] rfl (by (try simp only [List.map_toArray, List.map_cons, List.map_nil]); first | done | (simp only [hji5]; rfl) | rfl | (simp only [List.length_drop, List.length_take]; rfl)) ?_; (with_reducible refine (umbelref04_times.same t125 (Go.bits .or .u64 x3_1 (ji5)) t129 t130 _ A8.out).mono ?_); rintro e w' ⟨rfl, rfl⟩; refine ⟨_, rfl, ?_⟩))
                go_roundg k1
                case measure => have := HK1.out; omega
                case rel => exact ⟨(Go.bits .or .u64 x3_1 (ji5)), (wrap64 (x4_1 - 1)), (by first | rfl | (simp; done) | (simp only [← hji5] <;> (first | rfl | simp)) | (simp [*]; done)), (by first | rfl | (simp; done) | (simp [*]; done)), H', ⟨by have := HK1.out; omega⟩, rfl⟩
              · rw [if_neg c11] at H
                have c11b0 : (t128 == 0) = false := beq_eq_false_iff_ne.mpr c11
                have c11b1 : (t128 != 0) = true := bne_iff_ne.mpr c11
                have H' := Aside0.mk H
                clear H
                go_wp2_with (first | ((with_reducible refine gate_callee (f := 48) rfl ?_); refine goesL_ (some 26) rfl rfl Tryd.func48 (by kernel_rfl) rfl #[.int .u64 (Go.bits .or .u64 x3_1 (ji5)), .int .u64 (Go.bits .or .u64 x3_1 (ji5))] rfl (by (try simp only [List.map_toArray, List.map_cons, List.map_nil]); first | done | (simp only [hji5]; rfl) | rfl | (simp only [List.length_drop, List.length_take]; rfl)) ?_; (with_reducible refine (umbelref04_times.same (Go.bits .or .u64 x3_1 (ji5)) (Go.bits .or .u64 x3_1 (ji5)) t125 t126 _ A6.out).mono ?_); rintro e w' ⟨rfl, rfl⟩; refine ⟨_, rfl, ?_⟩) | ((with_reducible refine gate_callee (f := 48) rfl ?_); refine goesL_ (some 32) rfl rfl Tryd.func48 (by kernel_rfl) rfl #[.int .u64 t126, .int .u64 (Go.bits .or .u64 x3_1 (ji5))] rfl (by (try simp only [List.map_toArray, List.map_cons, List.map_nil]); first | done | (simp only [hji5]; rfl) | rfl | (simp only [List.length_drop, List.length_take]; rfl)) ?_; (with_reducible refine (umbelref04_times.same t126 (Go.bits .or .u64 x3_1 (ji5)) t127 t128 _ A7.out).mono ?_); rintro e w' ⟨rfl, rfl⟩; refine ⟨_, rfl, ?_⟩) | ((with_reducible refine gate_callee (f := 48) rfl ?_); refine goesL_ (some 38) rfl rfl Tryd.func48 (by kernel_rfl) rfl #[.int .u64 t125, .int .u64 (Go.bits .or .u64 x3_1 (ji5))] rfl (by (try simp only [List.map_toArray, List.map_cons, List.map_nil]); first | done | (simp only [hji5]; rfl) | rfl | (simp only [List.length_drop, List.length_take]; rfl)) ?_; (with_reducible refine (umbelref04_times.same t125 (Go.bits .or .u64 x3_1 (ji5)) t129 t130 _ A8.out).mono ?_); rintro e w' ⟨rfl, rfl⟩; refine ⟨_, rfl, ?_⟩))
                go_roundg k1
                case measure => have := HK1.out; omega
                case rel => exact ⟨(x3_1), (wrap64 (x4_1 - 1)), (by first | rfl | (simp; done) | (simp [*]; done)), (by first | rfl | (simp; done) | (simp [*]; done)), H', ⟨by have := HK1.out; omega⟩, rfl⟩
            · rw [if_neg c10] at H
              have c10b0 : ((IntKind.u64.wrap (t127 + t130)) == (IntKind.u64.wrap (a0 * 4294967296))) = false := beq_eq_false_iff_ne.mpr c10
              have c10b1 : ((IntKind.u64.wrap (t127 + t130)) != (IntKind.u64.wrap (a0 * 4294967296))) = true := bne_iff_ne.mpr c10
              have H' := Aside0.mk H
              clear H
              go_wp2_with (first | ((with_reducible refine gate_callee (f := 48) rfl ?_); refine goesL_ (some 26) rfl rfl Tryd.func48 (by kernel_rfl) rfl #[.int .u64 (Go.bits .or .u64 x3_1 (ji5)), .int .u64 (Go.bits .or .u64 x3_1 (ji5))] rfl (by (try simp only [List.map_toArray, List.map_cons, List.map_nil]); first | done | (simp only [hji5]; rfl) | rfl | (simp only [List.length_drop, List.length_take]; rfl)) ?_; (with_reducible refine (umbelref04_times.same (Go.bits .or .u64 x3_1 (ji5)) (Go.bits .or .u64 x3_1 (ji5)) t125 t126 _ A6.out).mono ?_); rintro e w' ⟨rfl, rfl⟩; refine ⟨_, rfl, ?_⟩) | ((with_reducible refine gate_callee (f := 48) rfl ?_); refine goesL_ (some 32) rfl rfl Tryd.func48 (by kernel_rfl) rfl #[.int .u64 t126, .int .u64 (Go.bits .or .u64 x3_1 (ji5))] rfl (by (try simp only [List.map_toArray, List.map_cons, List.map_nil]); first | done | (simp only [hji5]; rfl) | rfl | (simp only [List.length_drop, List.length_take]; rfl)) ?_; (with_reducible refine (umbelref04_times.same t126 (Go.bits .or .u64 x3_1 (ji5)) t127 t128 _ A7.out).mono ?_); rintro e w' ⟨rfl, rfl⟩; refine ⟨_, rfl, ?_⟩) | ((with_reducible refine gate_callee (f := 48) rfl ?_); refine goesL_ (some 38) rfl rfl Tryd.func48 (by kernel_rfl) rfl #[.int .u64 t125, .int .u64 (Go.bits .or .u64 x3_1 (ji5))] rfl (by (try simp only [List.map_toArray, List.map_cons, List.map_nil]); first | done | (simp only [hji5]; rfl) | rfl | (simp only [List.length_drop, List.length_take]; rfl)) ?_; (with_reducible refine (umbelref04_times.same t125 (Go.bits .or .u64 x3_1 (ji5)) t129 t130 _ A8.out).mono ?_); rintro e w' ⟨rfl, rfl⟩; refine ⟨_, rfl, ?_⟩))
              go_roundg k1
              case measure => have := HK1.out; omega
              case rel => exact ⟨(x3_1), (wrap64 (x4_1 - 1)), (by first | rfl | (simp; done) | (simp [*]; done)), (by first | rfl | (simp; done) | (simp [*]; done)), H', ⟨by have := HK1.out; omega⟩, rfl⟩
        · rw [if_neg c4] at H
          exact absurd H (by simp)
      · rw [if_neg c2] at H
        have c2b0 : decide (0 ≤ x4_1) = false := decide_eq_false c2
        clear c2
        obtain rfl := Option.some.inj H
        go_wp2
        go_ret
        exact ⟨by first | rfl | (simp; done) | (simp [*]; done), rfl⟩

end Go.Proofs.YtbphehijikdkjaaDoor.PDgs
