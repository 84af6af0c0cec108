import Derived.Test.YtklakmooaffjpaaDoorDig
import Derived.Test.YtklakmooaffjpaaDoorDgsR
section
/-
  Contracts of functions that only compute: the world stays the very same.
-/
namespace Go.Proofs.YtklakmooaffjpaaDoor.PDgs
open Go.RowKit Go.Proofs.YtklakmooaffjpaaDoorW.PrintWords Go.Proofs.YtklakmooaffjpaaDoorW.PrintLast Go.Proofs.YtklakmooaffjpaaDoorW.PrintMore
attribute [local go_sem] max2_int min2_int max_two min_two max_three min_three max_four min_four   -- for this text's walks alone
set_option linter.unusedVariables false
set_option linter.unusedSimpArgs false
open Go.Proofs.YtklakmooaffjpaaDoor.HW

set_option maxHeartbeats 8000000 in
set_option maxRecDepth 100000 in
theorem r4turn.same (a0 : Int) (a1 : Int) (r : Int) (w : World) (h : r4turn.f a0 a1 = some r) :
    Calls Tryd.prog 68 #[.int .u32 a0, .int .u64 a1] w fun e w' => e = .returned (.int .u32 r) ∧ w' = w := by
  have H : (if 0 ≤ a1 then (if 0 ≤ (IntKind.u64.wrap (32 - a1)) then (some (Go.bits .or .u32 (shr .u32 a0 a1) (shl .u32 a0 (IntKind.u64.wrap (32 - a1))))) else (none)) else (none)) = some r := h
  clear h
  by_cases c3 : 0 ≤ a1
  · rw [if_pos c3] at H
    have c3b0 := eq_true c3
    have c3b1 : decide (0 ≤ a1) = true := decide_eq_true c3
    clear c3
    obtain ⟨ji4, hji4⟩ : ∃ j_ : Int, (shr .u32 a0 a1) = j_ := ⟨_, rfl⟩
    replace H : (if 0 ≤ (IntKind.u64.wrap (32 - a1)) then (some (Go.bits .or .u32 (ji4) (shl .u32 a0 (IntKind.u64.wrap (32 - a1))))) else (none)) = some r := by first | (rw [hji4] at H; exact H) | (simp only [hji4] at H ⊢; exact H)
    have hji4_ : (a0 / 2 ^ min a1.toNat 32) = ji4 := hji4
    have hji4z : a1 ≤ 32 → (a0 / 2 ^ a1.toNat) = ji4 := shr_small hji4
    obtain ⟨ji5, hji5⟩ : ∃ j_ : Int, (IntKind.u64.wrap (32 - a1)) = j_ := ⟨_, rfl⟩
    replace H : (if 0 ≤ (ji5) then (some (Go.bits .or .u32 (ji4) (shl .u32 a0 (ji5)))) else (none)) = some r := by first | (rw [hji5] at H; exact H) | (simp only [hji5] at H ⊢; exact H)
    by_cases c6 : 0 ≤ (ji5)
    · rw [if_pos c6] at H
      have c6b0 := eq_true c6
      have c6b1 : decide (0 ≤ (ji5)) = true := decide_eq_true c6
      clear c6
      obtain ⟨ji7, hji7⟩ : ∃ j_ : Int, (shl .u32 a0 (ji5)) = j_ := ⟨_, rfl⟩
      replace H : (some (Go.bits .or .u32 (ji4) (ji7))) = some r := by first | (rw [hji7] at H; exact H) | (simp only [hji7] at H ⊢; exact H)
      have hji7_ : (IntKind.u32.wrap (a0 * 2 ^ min (ji5).toNat 32)) = ji7 := hji7
      have hji7z : (ji5) ≤ 32 → (IntKind.u32.wrap (a0 * 2 ^ (ji5).toNat)) = ji7 := shl_small hji7
      obtain rfl := Option.some.inj H
      go_enter Tryd.func68, Tryd.ntmps68
      go_wp2
      go_ret
      exact ⟨by first | rfl | (simp; done) | (simp only [← hji4, ← hji5, ← hji7] <;> (first | rfl | simp)) | (simp [*]; done), rfl⟩
    · rw [if_neg c6] at H
      exact absurd H (by simp)
  · rw [if_neg c3] at H
    exact absurd H (by simp)

set_option maxHeartbeats 8000000 in
set_option maxRecDepth 100000 in
theorem r4times.same (a0 : Int) (a1 : Int) (r1 : Int) (r2 : Int) (w : World) (h : r4times.f a0 a1 = some (r1, r2)) :
    Calls Tryd.prog 69 #[.int .u64 a0, .int .u64 a1] w fun e w' => e = .returned (.tuple #[.int .u64 r1, .int .u64 r2]) ∧ w' = w := by
  have H : (some (IntKind.u64.wrap ((IntKind.u64.wrap ((IntKind.u64.wrap ((IntKind.u64.wrap ((a0 / 4294967296) * (a1 / 4294967296))) + ((IntKind.u64.wrap ((Go.bits .and .u64 a0 4294967295) * (a1 / 4294967296))) / 4294967296))) + ((IntKind.u64.wrap ((a0 / 4294967296) * (Go.bits .and .u64 a1 4294967295))) / 4294967296))) + ((IntKind.u64.wrap ((IntKind.u64.wrap (((IntKind.u64.wrap ((Go.bits .and .u64 a0 4294967295) * (Go.bits .and .u64 a1 4294967295))) / 4294967296) + (Go.bits .and .u64 (IntKind.u64.wrap ((Go.bits .and .u64 a0 4294967295) * (a1 / 4294967296))) 4294967295))) + (Go.bits .and .u64 (IntKind.u64.wrap ((a0 / 4294967296) * (Go.bits .and .u64 a1 4294967295))) 4294967295))) / 4294967296)), Go.bits .or .u64 (Go.bits .and .u64 (IntKind.u64.wrap ((Go.bits .and .u64 a0 4294967295) * (Go.bits .and .u64 a1 4294967295))) 4294967295) (IntKind.u64.wrap ((IntKind.u64.wrap ((IntKind.u64.wrap (((IntKind.u64.wrap ((Go.bits .and .u64 a0 4294967295) * (Go.bits .and .u64 a1 4294967295))) / 4294967296) + (Go.bits .and .u64 (IntKind.u64.wrap ((Go.bits .and .u64 a0 4294967295) * (a1 / 4294967296))) 4294967295))) + (Go.bits .and .u64 (IntKind.u64.wrap ((a0 / 4294967296) * (Go.bits .and .u64 a1 4294967295))) 4294967295))) * 4294967296)))) = some (r1, r2) := h
  clear h
  simp only [Option.some.injEq, Prod.mk.injEq] at H
  obtain ⟨rfl, rfl⟩ := H
  go_enter Tryd.func69, Tryd.ntmps69
  go_wp2
  go_ret2
  exact ⟨by first | rfl | (simp; done) | (simp [*]; done), rfl⟩

set_option maxHeartbeats 8000000 in
set_option maxRecDepth 100000 in
theorem r4square.same (k : Nat) (a0 : Int) (r : Int) (w : World) (h : r4square.f k a0 = some r) :
    Calls Tryd.prog 62 #[.int .u64 a0] w fun e w' => e = .returned (.int .u32 r) ∧ w' = w := by
  have H : (r4square.l0 k a0 0 36) = some r := h
  clear h
  have H' := A0_.mk H
  clear H
  go_enter Tryd.func62, Tryd.ntmps62
  go_wp2
  go_loopg [3, 4] k (fun kq v3 v4 w' => ∃ (x3_1 : Int) (x4_1 : Int), v3 = .int .u64 x3_1 ∧ v4 = .int .i64 x4_1 ∧ A0_ (r4square.l0 kq a0 x3_1 x4_1 = some r) ∧ A0_ (kq ≤ k) ∧ w' = w)
  case atStart => exact ⟨(0), (36), (by first | rfl | (simp; done) | (simp [*]; done)), (by first | rfl | (simp; done) | (simp [*]; done)), H', ⟨Nat.le_refl _⟩, rfl⟩
  case round =>
    clear H'
    obtain ⟨x3_1, x4_1, rfl, rfl, HA, HK1, rfl⟩ := hrel
    cases gk with
    | zero => exact absurd HA.out (by simp [r4square.l0])
    | succ k1 =>
      have H := HA.out
      clear HA
      simp only [r4square.l0] at H
      by_cases c2 : x4_1 ≥ 0
      · rw [if_pos c2] at H
        have c2b0 : decide (0 ≤ x4_1) = true := decide_eq_true c2
        clear c2
        obtain ⟨ji3, hji3⟩ : ∃ j_ : Int, (IntKind.u64.wrap (x4_1)) = j_ := ⟨_, rfl⟩
        replace H : (if 0 ≤ (ji3) then ((r4times.f (Go.bits .or .u64 x3_1 (shl .u64 1 (ji3))) (Go.bits .or .u64 x3_1 (shl .u64 1 (ji3)))).bind fun bt123 => (if bt123.1 < a0 then (r4square.l0 k1 a0 (Go.bits .or .u64 x3_1 (shl .u64 1 (ji3))) (wrap64 (x4_1 - 1))) else (if bt123.1 = a0 then (if bt123.2 = 0 then (r4square.l0 k1 a0 (Go.bits .or .u64 x3_1 (shl .u64 1 (ji3))) (wrap64 (x4_1 - 1))) else (r4square.l0 k1 a0 x3_1 (wrap64 (x4_1 - 1)))) else (r4square.l0 k1 a0 x3_1 (wrap64 (x4_1 - 1)))))) else (none)) = some r := by first | (rw [hji3] at H; exact H) | (simp only [hji3] at H ⊢; exact H)
        by_cases c4 : 0 ≤ (ji3)
        · rw [if_pos c4] at H
          have c4b0 := eq_true c4
          have c4b1 : decide (0 ≤ (ji3)) = true := decide_eq_true c4
          clear c4
          obtain ⟨ji5, hji5⟩ : ∃ j_ : Int, (shl .u64 1 (ji3)) = j_ := ⟨_, rfl⟩
          replace H : ((r4times.f (Go.bits .or .u64 x3_1 (ji5)) (Go.bits .or .u64 x3_1 (ji5))).bind fun bt123 => (if bt123.1 < a0 then (r4square.l0 k1 a0 (Go.bits .or .u64 x3_1 (ji5)) (wrap64 (x4_1 - 1))) else (if bt123.1 = a0 then (if bt123.2 = 0 then (r4square.l0 k1 a0 (Go.bits .or .u64 x3_1 (ji5)) (wrap64 (x4_1 - 1))) else (r4square.l0 k1 a0 x3_1 (wrap64 (x4_1 - 1)))) else (r4square.l0 k1 a0 x3_1 (wrap64 (x4_1 - 1)))))) = some r := by first | (rw [hji5] at H; exact H) | (simp only [hji5] at H ⊢; exact H)
          have hji5_ : (IntKind.u64.wrap (1 * 2 ^ min (ji3).toNat 64)) = ji5 := hji5
          have hji5z : (ji3) ≤ 64 → (IntKind.u64.wrap (1 * 2 ^ (ji3).toNat)) = ji5 := shl_small hji5
          have hji5u : (IntKind.u64.wrap (2 ^ min (ji3).toNat 64)) = ji5 := by have h_ := hji5_; rw [Int.one_mul] at h_; exact h_
          have hji5v : (ji3) ≤ 64 → (IntKind.u64.wrap (2 ^ (ji3).toNat)) = ji5 := fun hle_ => by have h_ := hji5z hle_; rw [Int.one_mul] at h_; exact h_
          replace H := Option.bind_eq_some_iff.mp H
          obtain ⟨⟨t123, t124⟩, A60, H⟩ := H
          replace H : (if t123 < a0 then (r4square.l0 k1 a0 (Go.bits .or .u64 x3_1 (ji5)) (wrap64 (x4_1 - 1))) else (if t123 = a0 then (if t124 = 0 then (r4square.l0 k1 a0 (Go.bits .or .u64 x3_1 (ji5)) (wrap64 (x4_1 - 1))) else (r4square.l0 k1 a0 x3_1 (wrap64 (x4_1 - 1)))) else (r4square.l0 k1 a0 x3_1 (wrap64 (x4_1 - 1))))) = some r := H
          have A6 := A0_.mk A60
          clear A60
          by_cases c7 : t123 < a0
          · rw [if_pos c7] at H
            have c7b0 : decide (t123 < a0) = true := decide_eq_true c7
            clear c7
            have H' := A0_.mk H
            clear H
            go_wp2_with (first | ((with_reducible refine gC (f := 69) rfl ?_); refine gL (some 20) rfl rfl Tryd.func69 (by kernel_rfl) rfl #[.int .u64 (Go.bits .or .u64 x3_1 (ji5)), .int .u64 (Go.bits .or .u64 x3_1 (ji5))] rfl (by (try simp only [List.map_toArray, List.map_cons, List.map_nil]); first | done | (simp only [hji5]; rfl) | rfl | (simp only [List.length_drop, List.length_take]; rfl)) ?_; (with_reducible refine (r4times.same (Go.bits .or .u64 x3_1 (ji5)) (Go.bits .or .u64 x3_1 (ji5)) t123 t124 _ A6.out).mono ?_); rintro e w' ⟨rfl, rfl⟩; refine ⟨_, rfl, ?_⟩))
            go_roundg k1
            case measure => have := HK1.out; omega
            case rel => exact ⟨(Go.bits .or .u64 x3_1 (ji5)), (wrap64 (x4_1 - 1)), (by first | rfl | (simp; done) | (simp only [← hji5] <;> (first | rfl | simp)) | (simp [*]; done)), (by first | rfl | (simp; done) | (simp [*]; done)), H', ⟨by have := HK1.out; omega⟩, rfl⟩
          · rw [if_neg c7] at H
            have c7b0 : decide (t123 < a0) = false := decide_eq_false c7
            clear c7
            by_cases c8 : t123 = a0
            · rw [if_pos c8] at H
              have c8b0 : (t123 == a0) = true := beq_iff_eq.mpr c8
              have c8b1 : (t123 != a0) = false := bne_eq_false_iff_eq.mpr c8
              clear c8
              by_cases c9 : t124 = 0
              · rw [if_pos c9] at H
                have c9b0 : (t124 == 0) = true := beq_iff_eq.mpr c9
                have c9b1 : (t124 != 0) = false := bne_eq_false_iff_eq.mpr c9
                clear c9
                have H' := A0_.mk H
                clear H
                go_wp2_with (first | ((with_reducible refine gC (f := 69) rfl ?_); refine gL (some 20) rfl rfl Tryd.func69 (by kernel_rfl) rfl #[.int .u64 (Go.bits .or .u64 x3_1 (ji5)), .int .u64 (Go.bits .or .u64 x3_1 (ji5))] rfl (by (try simp only [List.map_toArray, List.map_cons, List.map_nil]); first | done | (simp only [hji5]; rfl) | rfl | (simp only [List.length_drop, List.length_take]; rfl)) ?_; (with_reducible refine (r4times.same (Go.bits .or .u64 x3_1 (ji5)) (Go.bits .or .u64 x3_1 (ji5)) t123 t124 _ A6.out).mono ?_); rintro e w' ⟨rfl, rfl⟩; refine ⟨_, rfl, ?_⟩))
                go_roundg k1
                case measure => have := HK1.out; omega
                case rel => exact ⟨(Go.bits .or .u64 x3_1 (ji5)), (wrap64 (x4_1 - 1)), (by first | rfl | (simp; done) | (simp only [← hji5] <;> (first | rfl | simp)) | (simp [*]; done)), (by first | rfl | (simp; done) | (simp [*]; done)), H', ⟨by have := HK1.out; omega⟩, rfl⟩
              · rw [if_neg c9] at H
                have c9b0 : (t124 == 0) = false := beq_eq_false_iff_ne.mpr c9
                have c9b1 : (t124 != 0) = true := bne_iff_ne.mpr c9
                have H' := A0_.mk H
                clear H
                go_wp2_with (first | ((with_reducible refine gC (f := 69) rfl ?_); refine gL (some 20) rfl rfl Tryd.func69 (by kernel_rfl) rfl #[.int .u64 (Go.bits .or .u64 x3_1 (ji5)), .int .u64 (Go.bits .or .u64 x3_1 (ji5))] rfl (by (try simp only [List.map_toArray, List.map_cons, List.map_nil]); first | done | (simp only [hji5]; rfl) | rfl | (simp only [List.length_drop, List.length_take]; rfl)) ?_; (with_reducible refine (r4times.same (Go.bits .or .u64 x3_1 (ji5)) (Go.bits .or .u64 x3_1 (ji5)) t123 t124 _ A6.out).mono ?_); rintro e w' ⟨rfl, rfl⟩; refine ⟨_, rfl, ?_⟩))
                go_roundg k1
                case measure => have := HK1.out; omega
                case rel => exact ⟨(x3_1), (wrap64 (x4_1 - 1)), (by first | rfl | (simp; done) | (simp [*]; done)), (by first | rfl | (simp; done) | (simp [*]; done)), H', ⟨by have := HK1.out; omega⟩, rfl⟩
            · rw [if_neg c8] at H
              have c8b0 : (t123 == a0) = false := beq_eq_false_iff_ne.mpr c8
              have c8b1 : (t123 != a0) = true := bne_iff_ne.mpr c8
              have H' := A0_.mk H
              clear H
              go_wp2_with (first | ((with_reducible refine gC (f := 69) rfl ?_); refine gL (some 20) rfl rfl Tryd.func69 (by kernel_rfl) rfl #[.int .u64 (Go.bits .or .u64 x3_1 (ji5)), .int .u64 (Go.bits .or .u64 x3_1 (ji5))] rfl (by (try simp only [List.map_toArray, List.map_cons, List.map_nil]); first | done | (simp only [hji5]; rfl) | rfl | (simp only [List.length_drop, List.length_take]; rfl)) ?_; (with_reducible refine (r4times.same (Go.bits .or .u64 x3_1 (ji5)) (Go.bits .or .u64 x3_1 (ji5)) t123 t124 _ A6.out).mono ?_); rintro e w' ⟨rfl, rfl⟩; refine ⟨_, rfl, ?_⟩))
              go_roundg k1
              case measure => have := HK1.out; omega
              case rel => exact ⟨(x3_1), (wrap64 (x4_1 - 1)), (by first | rfl | (simp; done) | (simp [*]; done)), (by first | rfl | (simp; done) | (simp [*]; done)), H', ⟨by have := HK1.out; omega⟩, rfl⟩
        · rw [if_neg c4] at H
          exact absurd H (by simp)
      · rw [if_neg c2] at H
        have c2b0 : decide (0 ≤ x4_1) = false := decide_eq_false c2
        clear c2
        obtain rfl := Option.some.inj H
        go_wp2
        go_ret
        exact ⟨by first | rfl | (simp; done) | (simp [*]; done), rfl⟩

set_option maxHeartbeats 8000000 in
set_option maxRecDepth 100000 in
theorem r4cube.same (k : Nat) (a0 : Int) (r : Int) (w : World) (h : r4cube.f k a0 = some r) :
    Calls Tryd.prog 63 #[.int .u64 a0] w fun e w' => e = .returned (.int .u32 r) ∧ w' = w := by
  have H : (r4cube.l0 k a0 0 35) = some r := h
  clear h
  have H' := A0_.mk H
  clear H
  go_enter Tryd.func63, Tryd.ntmps63
  go_wp2
  go_loopg [3, 4] k (fun kq v3 v4 w' => ∃ (x3_1 : Int) (x4_1 : Int), v3 = .int .u64 x3_1 ∧ v4 = .int .i64 x4_1 ∧ A0_ (r4cube.l0 kq a0 x3_1 x4_1 = some r) ∧ A0_ (kq ≤ k) ∧ w' = w)
  case atStart => exact ⟨(0), (35), (by first | rfl | (simp; done) | (simp [*]; done)), (by first | rfl | (simp; done) | (simp [*]; done)), H', ⟨Nat.le_refl _⟩, rfl⟩
  case round =>
    clear H'
    obtain ⟨x3_1, x4_1, rfl, rfl, HA, HK1, rfl⟩ := hrel
    cases gk with
    | zero => exact absurd HA.out (by simp [r4cube.l0])
    | succ k1 =>
      have H := HA.out
      clear HA
      simp only [r4cube.l0] at H
      by_cases c2 : x4_1 ≥ 0
      · rw [if_pos c2] at H
        have c2b0 : decide (0 ≤ x4_1) = true := decide_eq_true c2
        clear c2
        obtain ⟨ji3, hji3⟩ : ∃ j_ : Int, (IntKind.u64.wrap (x4_1)) = j_ := ⟨_, rfl⟩
        replace H : (if 0 ≤ (ji3) then ((r4times.f (Go.bits .or .u64 x3_1 (shl .u64 1 (ji3))) (Go.bits .or .u64 x3_1 (shl .u64 1 (ji3)))).bind fun bt125 => ((r4times.f bt125.2 (Go.bits .or .u64 x3_1 (shl .u64 1 (ji3)))).bind fun bt127 => ((r4times.f bt125.1 (Go.bits .or .u64 x3_1 (shl .u64 1 (ji3)))).bind fun bt129 => (if (IntKind.u64.wrap (bt127.1 + bt129.2)) < (IntKind.u64.wrap (a0 * 4294967296)) then (r4cube.l0 k1 a0 (Go.bits .or .u64 x3_1 (shl .u64 1 (ji3))) (wrap64 (x4_1 - 1))) else (if (IntKind.u64.wrap (bt127.1 + bt129.2)) = (IntKind.u64.wrap (a0 * 4294967296)) then (if bt127.2 = 0 then (r4cube.l0 k1 a0 (Go.bits .or .u64 x3_1 (shl .u64 1 (ji3))) (wrap64 (x4_1 - 1))) else (r4cube.l0 k1 a0 x3_1 (wrap64 (x4_1 - 1)))) else (r4cube.l0 k1 a0 x3_1 (wrap64 (x4_1 - 1)))))))) else (none)) = some r := by first | (rw [hji3] at H; exact H) | (simp only [hji3] at H ⊢; exact H)
        by_cases c4 : 0 ≤ (ji3)
        · rw [if_pos c4] at H
          have c4b0 := eq_true c4
          have c4b1 : decide (0 ≤ (ji3)) = true := decide_eq_true c4
          clear c4
          obtain ⟨ji5, hji5⟩ : ∃ j_ : Int, (shl .u64 1 (ji3)) = j_ := ⟨_, rfl⟩
          replace H : ((r4times.f (Go.bits .or .u64 x3_1 (ji5)) (Go.bits .or .u64 x3_1 (ji5))).bind fun bt125 => ((r4times.f bt125.2 (Go.bits .or .u64 x3_1 (ji5))).bind fun bt127 => ((r4times.f bt125.1 (Go.bits .or .u64 x3_1 (ji5))).bind fun bt129 => (if (IntKind.u64.wrap (bt127.1 + bt129.2)) < (IntKind.u64.wrap (a0 * 4294967296)) then (r4cube.l0 k1 a0 (Go.bits .or .u64 x3_1 (ji5)) (wrap64 (x4_1 - 1))) else (if (IntKind.u64.wrap (bt127.1 + bt129.2)) = (IntKind.u64.wrap (a0 * 4294967296)) then (if bt127.2 = 0 then (r4cube.l0 k1 a0 (Go.bits .or .u64 x3_1 (ji5)) (wrap64 (x4_1 - 1))) else (r4cube.l0 k1 a0 x3_1 (wrap64 (x4_1 - 1)))) else (r4cube.l0 k1 a0 x3_1 (wrap64 (x4_1 - 1)))))))) = some r := by first | (rw [hji5] at H; exact H) | (simp only [hji5] at H ⊢; exact H)
          have hji5_ : (IntKind.u64.wrap (1 * 2 ^ min (ji3).toNat 64)) = ji5 := hji5
          have hji5z : (ji3) ≤ 64 → (IntKind.u64.wrap (1 * 2 ^ (ji3).toNat)) = ji5 := shl_small hji5
          have hji5u : (IntKind.u64.wrap (2 ^ min (ji3).toNat 64)) = ji5 := by have h_ := hji5_; rw [Int.one_mul] at h_; exact h_
          have hji5v : (ji3) ≤ 64 → (IntKind.u64.wrap (2 ^ (ji3).toNat)) = ji5 := fun hle_ => by have h_ := hji5z hle_; rw [Int.one_mul] at h_; exact h_
          replace H := Option.bind_eq_some_iff.mp H
          obtain ⟨⟨t125, t126⟩, A60, H⟩ := H
          replace H : ((r4times.f t126 (Go.bits .or .u64 x3_1 (ji5))).bind fun bt127 => ((r4times.f t125 (Go.bits .or .u64 x3_1 (ji5))).bind fun bt129 => (if (IntKind.u64.wrap (bt127.1 + bt129.2)) < (IntKind.u64.wrap (a0 * 4294967296)) then (r4cube.l0 k1 a0 (Go.bits .or .u64 x3_1 (ji5)) (wrap64 (x4_1 - 1))) else (if (IntKind.u64.wrap (bt127.1 + bt129.2)) = (IntKind.u64.wrap (a0 * 4294967296)) then (if bt127.2 = 0 then (r4cube.l0 k1 a0 (Go.bits .or .u64 x3_1 (ji5)) (wrap64 (x4_1 - 1))) else (r4cube.l0 k1 a0 x3_1 (wrap64 (x4_1 - 1)))) else (r4cube.l0 k1 a0 x3_1 (wrap64 (x4_1 - 1))))))) = some r := H
          have A6 := A0_.mk A60
          clear A60
          replace H := Option.bind_eq_some_iff.mp H
          obtain ⟨⟨t127, t128⟩, A70, H⟩ := H
          replace H : ((r4times.f t125 (Go.bits .or .u64 x3_1 (ji5))).bind fun bt129 => (if (IntKind.u64.wrap (t127 + bt129.2)) < (IntKind.u64.wrap (a0 * 4294967296)) then (r4cube.l0 k1 a0 (Go.bits .or .u64 x3_1 (ji5)) (wrap64 (x4_1 - 1))) else (if (IntKind.u64.wrap (t127 + bt129.2)) = (IntKind.u64.wrap (a0 * 4294967296)) then (if t128 = 0 then (r4cube.l0 k1 a0 (Go.bits .or .u64 x3_1 (ji5)) (wrap64 (x4_1 - 1))) else (r4cube.l0 k1 a0 x3_1 (wrap64 (x4_1 - 1)))) else (r4cube.l0 k1 a0 x3_1 (wrap64 (x4_1 - 1)))))) = some r := H
          have A7 := A0_.mk A70
          clear A70
          replace H := Option.bind_eq_some_iff.mp H
          obtain ⟨⟨t129, t130⟩, A80, H⟩ := H
          replace H : (if (IntKind.u64.wrap (t127 + t130)) < (IntKind.u64.wrap (a0 * 4294967296)) then (r4cube.l0 k1 a0 (Go.bits .or .u64 x3_1 (ji5)) (wrap64 (x4_1 - 1))) else (if (IntKind.u64.wrap (t127 + t130)) = (IntKind.u64.wrap (a0 * 4294967296)) then (if t128 = 0 then (r4cube.l0 k1 a0 (Go.bits .or .u64 x3_1 (ji5)) (wrap64 (x4_1 - 1))) else (r4cube.l0 k1 a0 x3_1 (wrap64 (x4_1 - 1)))) else (r4cube.l0 k1 a0 x3_1 (wrap64 (x4_1 - 1))))) = some r := H
          have A8 := A0_.mk A80
          clear A80
          by_cases c9 : (IntKind.u64.wrap (t127 + t130)) < (IntKind.u64.wrap (a0 * 4294967296))
          · rw [if_pos c9] at H
            have c9b0 : decide ((IntKind.u64.wrap (t127 + t130)) < (IntKind.u64.wrap (a0 * 4294967296))) = true := decide_eq_true c9
            clear c9
            have H' := A0_.mk H
            clear H
            go_wp2_with (first | ((with_reducible refine gC (f := 69) rfl ?_); refine gL (some 26) rfl rfl Tryd.func69 (by kernel_rfl) rfl #[.int .u64 (Go.bits .or .u64 x3_1 (ji5)), .int .u64 (Go.bits .or .u64 x3_1 (ji5))] rfl (by (try simp only [List.map_toArray, List.map_cons, List.map_nil]); first | done | (simp only [hji5]; rfl) | rfl | (simp only [List.length_drop, List.length_take]; rfl)) ?_; (with_reducible refine (r4times.same (Go.bits .or .u64 x3_1 (ji5)) (Go.bits .or .u64 x3_1 (ji5)) t125 t126 _ A6.out).mono ?_); rintro e w' ⟨rfl, rfl⟩; refine ⟨_, rfl, ?_⟩) | ((with_reducible refine gC (f := 69) rfl ?_); refine gL (some 32) rfl rfl Tryd.func69 (by kernel_rfl) rfl #[.int .u64 t126, .int .u64 (Go.bits .or .u64 x3_1 (ji5))] rfl (by (try simp only [List.map_toArray, List.map_cons, List.map_nil]); first | done | (simp only [hji5]; rfl) | rfl | (simp only [List.length_drop, List.length_take]; rfl)) ?_; (with_reducible refine (r4times.same t126 (Go.bits .or .u64 x3_1 (ji5)) t127 t128 _ A7.out).mono ?_); rintro e w' ⟨rfl, rfl⟩; refine ⟨_, rfl, ?_⟩) | ((with_reducible refine gC (f := 69) rfl ?_); refine gL (some 38) rfl rfl Tryd.func69 (by kernel_rfl) rfl #[.int .u64 t125, .int .u64 (Go.bits .or .u64 x3_1 (ji5))] rfl (by (try simp only [List.map_toArray, List.map_cons, List.map_nil]); first | done | (simp only [hji5]; rfl) | rfl | (simp only [List.length_drop, List.length_take]; rfl)) ?_; (with_reducible refine (r4times.same t125 (Go.bits .or .u64 x3_1 (ji5)) t129 t130 _ A8.out).mono ?_); rintro e w' ⟨rfl, rfl⟩; refine ⟨_, rfl, ?_⟩))
            go_roundg k1
            case measure => have := HK1.out; omega
            case rel => exact ⟨(Go.bits .or .u64 x3_1 (ji5)), (wrap64 (x4_1 - 1)), (by first | rfl | (simp; done) | (simp only [← hji5] <;> (first | rfl | simp)) | (simp [*]; done)), (by first | rfl | (simp; done) | (simp [*]; done)), H', ⟨by have := HK1.out; omega⟩, rfl⟩
          · rw [if_neg c9] at H
            have c9b0 : decide ((IntKind.u64.wrap (t127 + t130)) < (IntKind.u64.wrap (a0 * 4294967296))) = false := decide_eq_false c9
            clear c9
            by_cases c10 : (IntKind.u64.wrap (t127 + t130)) = (IntKind.u64.wrap (a0 * 4294967296))
            · rw [if_pos c10] at H
              have c10b0 : ((IntKind.u64.wrap (t127 + t130)) == (IntKind.u64.wrap (a0 * 4294967296))) = true := beq_iff_eq.mpr c10
              have c10b1 : ((IntKind.u64.wrap (t127 + t130)) != (IntKind.u64.wrap (a0 * 4294967296))) = false := bne_eq_false_iff_eq.mpr c10
              clear c10
              by_cases c11 : t128 = 0
              · rw [if_pos c11] at H
                have c11b0 : (t128 == 0) = true := beq_iff_eq.mpr c11
                have c11b1 : (t128 != 0) = false := bne_eq_false_iff_eq.mpr c11
                clear c11
                have H' := A0_.mk H
                clear H
                go_wp2_with (first | ((with_reducible refine gC (f := 69) rfl ?_); refine gL (some 26) rfl rfl Tryd.func69 (by kernel_rfl) rfl #[.int .u64 (Go.bits .or .u64 x3_1 (ji5)), .int .u64 (Go.bits .or .u64 x3_1 (ji5))] rfl (by (try simp only [List.map_toArray, List.map_cons, List.map_nil]); first | done | (simp only [hji5]; rfl) | rfl | (simp only [List.length_drop, List.length_take]; rfl)) ?_; (with_reducible refine (r4times.same (Go.bits .or .u64 x3_1 (ji5)) (Go.bits .or .u64 x3_1 (ji5)) t125 t126 _ A6.out).mono ?_); rintro e w' ⟨rfl, rfl⟩; refine ⟨_, rfl, ?_⟩) | ((with_reducible refine gC (f := 69) rfl ?_); refine gL (some 32) rfl rfl Tryd.func69 (by kernel_rfl) rfl #[.int .u64 t126, .int .u64 (Go.bits .or .u64 x3_1 (ji5))] rfl (by (try simp only [List.map_toArray, List.map_cons, List.map_nil]); first | done | (simp only [hji5]; rfl) | rfl | (simp only [List.length_drop, List.length_take]; rfl)) ?_; (with_reducible refine (r4times.same t126 (Go.bits .or .u64 x3_1 (ji5)) t127 t128 _ A7.out).mono ?_); rintro e w' ⟨rfl, rfl⟩; refine ⟨_, rfl, ?_⟩) | ((with_reducible refine gC (f := 69) rfl ?_); refine gL (some 38) rfl rfl Tryd.func69 (by kernel_rfl) rfl #[.int .u64 t125, .int .u64 (Go.bits .or .u64 x3_1 (ji5))] rfl (by (try simp only [List.map_toArray, List.map_cons, List.map_nil]); first | done | (simp only [hji5]; rfl) | rfl | (simp only [List.length_drop, List.length_take]; rfl)) ?_; (with_reducible refine (r4times.same t125 (Go.bits .or .u64 x3_1 (ji5)) t129 t130 _ A8.out).mono ?_); rintro e w' ⟨rfl, rfl⟩; refine ⟨_, rfl, ?_⟩))
                go_roundg k1
                case measure => have := HK1.out; omega
                case rel => exact ⟨(Go.bits .or .u64 x3_1 (ji5)), (wrap64 (x4_1 - 1)), (by first | rfl | (simp; done) | (simp only [← hji5] <;> (first | rfl | simp)) | (simp [*]; done)), (by first | rfl | (simp; done) | (simp [*]; done)), H', ⟨by have := HK1.out; omega⟩, rfl⟩
              · rw [if_neg c11] at H
                have c11b0 : (t128 == 0) = false := beq_eq_false_iff_ne.mpr c11
                have c11b1 : (t128 != 0) = true := bne_iff_ne.mpr c11
                have H' := A0_.mk H
                clear H
                go_wp2_with (first | ((with_reducible refine gC (f := 69) rfl ?_); refine gL (some 26) rfl rfl Tryd.func69 (by kernel_rfl) rfl #[.int .u64 (Go.bits .or .u64 x3_1 (ji5)), .int .u64 (Go.bits .or .u64 x3_1 (ji5))] rfl (by (try simp only [List.map_toArray, List.map_cons, List.map_nil]); first | done | (simp only [hji5]; rfl) | rfl | (simp only [List.length_drop, List.length_take]; rfl)) ?_; (with_reducible refine (r4times.same (Go.bits .or .u64 x3_1 (ji5)) (Go.bits .or .u64 x3_1 (ji5)) t125 t126 _ A6.out).mono ?_); rintro e w' ⟨rfl, rfl⟩; refine ⟨_, rfl, ?_⟩) | ((with_reducible refine gC (f := 69) rfl ?_); refine gL (some 32) rfl rfl Tryd.func69 (by kernel_rfl) rfl #[.int .u64 t126, .int .u64 (Go.bits .or .u64 x3_1 (ji5))] rfl (by (try simp only [List.map_toArray, List.map_cons, List.map_nil]); first | done | (simp only [hji5]; rfl) | rfl | (simp only [List.length_drop, List.length_take]; rfl)) ?_; (with_reducible refine (r4times.same t126 (Go.bits .or .u64 x3_1 (ji5)) t127 t128 _ A7.out).mono ?_); rintro e w' ⟨rfl, rfl⟩; refine ⟨_, rfl, ?_⟩) | ((with_reducible refine gC (f := 69) rfl ?_); refine gL (some 38) rfl rfl Tryd.func69 (by kernel_rfl) rfl #[.int .u64 t125, .int .u64 (Go.bits .or .u64 x3_1 (ji5))] rfl (by (try simp only [List.map_toArray, List.map_cons, List.map_nil]); first | done | (simp only [hji5]; rfl) | rfl | (simp only [List.length_drop, List.length_take]; rfl)) ?_; (with_reducible refine (r4times.same t125 (Go.bits .or .u64 x3_1 (ji5)) t129 t130 _ A8.out).mono ?_); rintro e w' ⟨rfl, rfl⟩; refine ⟨_, rfl, ?_⟩))
                go_roundg k1
                case measure => have := HK1.out; omega
                case rel => exact ⟨(x3_1), (wrap64 (x4_1 - 1)), (by first | rfl | (simp; done) | (simp [*]; done)), (by first | rfl | (simp; done) | (simp [*]; done)), H', ⟨by have := HK1.out; omega⟩, rfl⟩
            · rw [if_neg c10] at H
              have c10b0 : ((IntKind.u64.wrap (t127 + t130)) == (IntKind.u64.wrap (a0 * 4294967296))) = false := beq_eq_false_iff_ne.mpr c10
              have c10b1 : ((IntKind.u64.wrap (t127 + t130)) != (IntKind.u64.wrap (a0 * 4294967296))) = true := bne_iff_ne.mpr c10
              have H' := A0_.mk H
              clear H
              go_wp2_with (first | ((with_reducible refine gC (f := 69) rfl ?_); refine gL (some 26) rfl rfl Tryd.func69 (by kernel_rfl) rfl #[.int .u64 (Go.bits .or .u64 x3_1 (ji5)), .int .u64 (Go.bits .or .u64 x3_1 (ji5))] rfl (by (try simp only [List.map_toArray, List.map_cons, List.map_nil]); first | done | (simp only [hji5]; rfl) | rfl | (simp only [List.length_drop, List.length_take]; rfl)) ?_; (with_reducible refine (r4times.same (Go.bits .or .u64 x3_1 (ji5)) (Go.bits .or .u64 x3_1 (ji5)) t125 t126 _ A6.out).mono ?_); rintro e w' ⟨rfl, rfl⟩; refine ⟨_, rfl, ?_⟩) | ((with_reducible refine gC (f := 69) rfl ?_); refine gL (some 32) rfl rfl Tryd.func69 (by kernel_rfl) rfl #[.int .u64 t126, .int .u64 (Go.bits .or .u64 x3_1 (ji5))] rfl (by (try simp only [List.map_toArray, List.map_cons, List.map_nil]); first | done | (simp only [hji5]; rfl) | rfl | (simp only [List.length_drop, List.length_take]; rfl)) ?_; (with_reducible refine (r4times.same t126 (Go.bits .or .u64 x3_1 (ji5)) t127 t128 _ A7.out).mono ?_); rintro e w' ⟨rfl, rfl⟩; refine ⟨_, rfl, ?_⟩) | ((with_reducible refine gC (f := 69) rfl ?_); refine gL (some 38) rfl rfl Tryd.func69 (by kernel_rfl) rfl #[.int .u64 t125, .int .u64 (Go.bits .or .u64 x3_1 (ji5))] rfl (by (try simp only [List.map_toArray, List.map_cons, List.map_nil]); first | done | (simp only [hji5]; rfl) | rfl | (simp only [List.length_drop, List.length_take]; rfl)) ?_; (with_reducible refine (r4times.same t125 (Go.bits .or .u64 x3_1 (ji5)) t129 t130 _ A8.out).mono ?_); rintro e w' ⟨rfl, rfl⟩; refine ⟨_, rfl, ?_⟩))
              go_roundg k1
              case measure => have := HK1.out; omega
              case rel => exact ⟨(x3_1), (wrap64 (x4_1 - 1)), (by first | rfl | (simp; done) | (simp [*]; done)), (by first | rfl | (simp; done) | (simp [*]; done)), H', ⟨by have := HK1.out; omega⟩, rfl⟩
        · rw [if_neg c4] at H
          exact absurd H (by simp)
      · rw [if_neg c2] at H
        have c2b0 : decide (0 ≤ x4_1) = false := decide_eq_false c2
        clear c2
        obtain rfl := Option.some.inj H
        go_wp2
        go_ret
        exact ⟨by first | rfl | (simp; done) | (simp [*]; done), rfl⟩

end Go.Proofs.YtklakmooaffjpaaDoor.PDgs
end

section
/-
  The reference's constants: its primes, square roots and cube roots, in plain numbers, evaluated.
-/
namespace Go.Proofs.YtklakmooaffjpaaDoor.DgsC
open Go.RowKit Go.Proofs.YtklakmooaffjpaaDoorW.PrintWords Go.Proofs.YtklakmooaffjpaaDoorW.PrintLast Go.Proofs.YtklakmooaffjpaaDoorW.PrintMore Go.Proofs.YtklakmooaffjpaaDoor.Str Go.Proofs.YtklakmooaffjpaaDoor.DgsP Go.Proofs.YtklakmooaffjpaaDoor.PDgs
set_option linter.unusedVariables false
/-- A number is reckoned out before it is used. -/
def force {α : Type} (n : Nat) (f : Nat → α) : α := Nat.rec (f 0) (fun k _ => f (k + 1)) n
theorem force_eq {α : Type} (n : Nat) (f : Nat → α) : force n f = f n := by cases n <;> rfl
def Q : Nat := 18446744073709551616
theorem Q_eq : Q = 18446744073709551616 := rfl
theorem wN (x : Nat) : IntKind.u64.wrap (x : Int) = ((x % Q : Nat) : Int) := by rw [IntKind.wrap_u64, Q_eq]; omega
theorem divN (x : Nat) : (x : Int) / 4294967296 = ((x / 4294967296 : Nat) : Int) := by omega
theorem mulN (x : Nat) : (x : Int) * 4294967296 = ((x * 4294967296 : Nat) : Int) := by omega
theorem toInt64 (x : Nat) : BitVec.ofInt 64 (x : Int) = BitVec.ofNat 64 x := BitVec.ofInt_natCast _ _
theorem andN (x : Nat) : bits .and .u64 (x : Int) 4294967295 = ((x % 4294967296 : Nat) : Int) := by
  have h1 : bits .and .u64 (x : Int) 4294967295 = IntKind.u64.wrap ((BitVec.ofNat 64 x &&& BitVec.ofNat 64 4294967295 : BitVec 64).toNat : Int) := by
    rw [← toInt64 x, ← toInt64 4294967295]; rfl
  rw [h1, BitVec.toNat_and, BitVec.toNat_ofNat, BitVec.toNat_ofNat, show 4294967295 % 2 ^ 64 = 2 ^ 32 - 1 from rfl, Nat.and_two_pow_sub_one_eq_mod, IntKind.wrap_u64]
  omega
theorem orN (x y : Nat) : bits .or .u64 (x : Int) (y : Int) = ((x % Q ||| y % Q : Nat) : Int) := by
  have h1 : bits .or .u64 (x : Int) (y : Int) = IntKind.u64.wrap ((BitVec.ofNat 64 x ||| BitVec.ofNat 64 y : BitVec 64).toNat : Int) := by
    rw [← toInt64 x, ← toInt64 y]; rfl
  have hx : (x % 2 ^ 64) ||| (y % 2 ^ 64) < 2 ^ 64 := Nat.or_lt_two_pow (Nat.mod_lt _ (by decide)) (Nat.mod_lt _ (by decide))
  rw [h1, BitVec.toNat_or, BitVec.toNat_ofNat, BitVec.toNat_ofNat, wN, Q_eq]
  exact congrArg _ (Nat.mod_eq_of_lt hx)
theorem shlN (i : Nat) (hi : i < 64) : shl .u64 1 (i : Int) = ((2 ^ i % Q : Nat) : Int) := by
  unfold shl
  rw [Int.toNat_natCast, show IntKind.u64.bits = 64 from rfl, Nat.min_eq_left (by omega), ← wN]
  simp
/-- Two numbers multiplied, as the reference does. -/
def timesF {α : Type} (a b : Nat) (K : Nat → Nat → α) : α :=
  force (a % 4294967296) fun al => force (a / 4294967296) fun ah => force (b % 4294967296) fun bl => force (b / 4294967296) fun bh =>
  force (al * bl % Q) fun ll => force (al * bh % Q) fun lh => force (ah * bl % Q) fun hl => force (ah * bh % Q) fun hh =>
  force (((ll / 4294967296 + lh % 4294967296) % Q + hl % 4294967296) % Q) fun mid =>
  force ((((hh + lh / 4294967296) % Q + hl / 4294967296) % Q + mid / 4294967296) % Q) fun r1 => force ((ll % 4294967296 % Q) ||| (mid * 4294967296 % Q % Q)) fun r2 => K r1 r2
def timesP (a b : Nat) : Nat × Nat := timesF a b Prod.mk
theorem timesF_pair {α : Type} (a b : Nat) (K : Nat → Nat → α) : timesF a b K = K (timesP a b).1 (timesP a b).2 := by
  simp only [timesP, timesF, force_eq]
theorem times_eq (a b : Nat) : r4times.f (a : Int) (b : Int) = some (((timesP a b).1 : Int), ((timesP a b).2 : Int)) := by
  unfold r4times.f timesP
  simp only [divN, andN, ← Int.natCast_mul, wN, ← Int.natCast_add, mulN, orN, timesF, force_eq]
/-- The square root's next bits. -/
def sqN (v : Nat) : Nat → Nat → Nat
  | 0, r => r % 4294967296
  | i + 1, r => force ((r % Q) ||| (2 ^ i % Q % Q)) fun x => timesF x x fun h l => if h < v then sqN v i x else if h = v then (if l = 0 then sqN v i x else sqN v i r) else sqN v i r
theorem ite_some {α : Type} (c : Prop) [Decidable c] (a b : α) : (if c then some a else some b) = some (if c then a else b) := by split <;> rfl
theorem ite_cast (c : Prop) [Decidable c] (a b : Nat) : (if c then (a : Int) else (b : Int)) = ((if c then a else b : Nat) : Int) := by split <;> rfl
theorem lt_cast (a b : Nat) : ((a : Int) < (b : Int)) = (a < b) := by simp
theorem eq_cast (a b : Nat) : ((a : Int) = (b : Int)) = (a = b) := by simp only [Int.natCast_inj]
theorem eq_zero (a : Nat) : ((a : Int) = 0) = (a = 0) := by simp
theorem sq_eq (v : Nat) : ∀ (i r : Nat), i ≤ 60 → r4square.l0 (i + 1) (v : Int) (r : Int) ((i : Int) - 1) = some ((sqN v i r : Nat) : Int)
  | 0, r, _ => by rw [r4square.l0, if_neg (by omega), sqN]; congr 1
  | i + 1, r, hi => by
    have w1 : IntKind.u64.wrap (((i + 1 : Nat) : Int) - 1) = (i : Int) := by rw [show (((i + 1 : Nat) : Int) - 1) = (i : Int) by omega, wN, Q_eq, Nat.mod_eq_of_lt (by omega)]
    have w2 : wrap64 (((i + 1 : Nat) : Int) - 1 - 1) = (i : Int) - 1 := by unfold wrap64; omega
    have ih1 := fun r => sq_eq v i r (by omega)
    rw [r4square.l0, w1, w2, if_pos (by omega), if_pos (by omega), shlN i (by omega), orN, times_eq, Option.bind_some]
    simp only [ih1, lt_cast, eq_cast, eq_zero, ite_some, ite_cast]
    rw [sqN, force_eq, timesF_pair]
theorem square_eq (v : Nat) : r4square.f 38 (v : Int) = some ((sqN v 37 0 : Nat) : Int) := sq_eq v 37 0 (by decide)
/-- The cube root's next bits. -/
def cuN (v : Nat) : Nat → Nat → Nat
  | 0, r => r % 4294967296
  | i + 1, r => force ((r % Q) ||| (2 ^ i % Q % Q)) fun x => timesF x x fun h l => timesF l x fun lh ll => timesF h x fun _ hl => force ((lh + hl) % Q) fun top => force (v * 4294967296 % Q) fun limit => if top < limit then cuN v i x else if top = limit then (if ll = 0 then cuN v i x else cuN v i r) else cuN v i r
theorem cu_eq (v : Nat) : ∀ (i r : Nat), i ≤ 60 → r4cube.l0 (i + 1) (v : Int) (r : Int) ((i : Int) - 1) = some ((cuN v i r : Nat) : Int)
  | 0, r, _ => by rw [r4cube.l0, if_neg (by omega), cuN]; congr 1
  | i + 1, r, hi => by
    have w1 : IntKind.u64.wrap (((i + 1 : Nat) : Int) - 1) = (i : Int) := by rw [show (((i + 1 : Nat) : Int) - 1) = (i : Int) by omega, wN, Q_eq, Nat.mod_eq_of_lt (by omega)]
    have w2 : wrap64 (((i + 1 : Nat) : Int) - 1 - 1) = (i : Int) - 1 := by unfold wrap64; omega
    have ih1 := fun r => cu_eq v i r (by omega)
    rw [r4cube.l0, w1, w2, if_pos (by omega), if_pos (by omega), shlN i (by omega), orN, times_eq, Option.bind_some]
    simp only [times_eq, Option.bind_some, mulN, wN, ← Int.natCast_add, ih1, lt_cast, eq_cast, eq_zero, ite_some, ite_cast]
    rw [cuN, force_eq, timesF_pair, timesF_pair, timesF_pair, force_eq, force_eq]
theorem cube_eq (v : Nat) : r4cube.f 37 (v : Int) = some ((cuN v 36 0 : Nat) : Int) := cu_eq v 36 0 (by decide)
/-- The first primes. -/
def PR : List Nat := [2, 3, 5, 7, 11, 13, 17, 19, 23, 29, 31, 37, 41, 43, 47, 53, 59, 61, 67, 71, 73, 79, 83, 89, 97, 101, 103, 107, 109, 113, 127, 131, 137, 139, 149, 151, 157, 163, 167, 173, 179, 181, 191, 193, 197, 199, 211, 223, 227, 229, 233, 239, 241, 251, 257, 263, 269, 271, 277, 281, 283, 293, 307, 311]
def below (v : Nat) : List Nat := PR.filter (· < v)
/-- Numbers as the program's. -/
def ns (l : List Nat) : List Int := l.map fun (x : Nat) => (x : Int)
theorem ns_len (l : List Nat) : (ns l).length = l.length := by simp [ns]
theorem rd_ns (l : List Nat) (j : Nat) (h : j < l.length) : rd (ns l) (j : Int) = ((l.getD j 0 : Nat) : Int) := by simp [rd, ns, List.getD_eq_getElem?_getD, h]
theorem primes_in (n : Int) (v : Nat) (l : List Nat) (hv : v < 1000) (hl : l.length ≤ 100) (hpos : ∀ x ∈ l, 0 < x) (r : List Int)
    (hy : (∀ x ∈ l, v % x ≠ 0) → ∃ k, r4primes.l0 k n (ns (l ++ [v])) ((v + 1 : Nat) : Int) = some r)
    (hn : (∃ x ∈ l, v % x = 0) → ∃ k, r4primes.l0 k n (ns l) ((v + 1 : Nat) : Int) = some r) :
    ∀ m j : Nat, m + j = l.length → (∀ i, i < j → v % l.getD i 0 ≠ 0) → ∃ k, r4primes.l1 k n (ns l) (v : Int) true (j : Int) = some r := by
  have wv : IntKind.u64.wrap ((v : Int) + 1) = ((v + 1 : Nat) : Int) := by rw [show ((v : Int) + 1) = ((v + 1 : Nat) : Int) by omega, wN, Q_eq, Nat.mod_eq_of_lt (by omega)]
  have hnL : (ns l).length = l.length := ns_len l
  intro m
  induction m with
  | zero =>
    intro j hj hp
    obtain ⟨k, hk⟩ := hy (fun x hx => by
      obtain ⟨i, hi, rfl⟩ := List.getElem_of_mem hx
      have := hp i (by omega)
      rwa [List.getD_eq_getElem?_getD, List.getElem?_eq_getElem hi, Option.getD_some] at this)
    refine ⟨k + 1, ?_⟩
    rw [r4primes.l1, if_neg (by omega), if_pos rfl, if_pos (by omega), wv]
    rw [show ns l ++ [(v : Int)] = ns (l ++ [v]) by simp [ns]]
    exact hk
  | succ m ih =>
    intro j hj hp
    have hjl : j < l.length := by omega
    have hmem : l.getD j 0 ∈ l := by rw [List.getD_eq_getElem?_getD, List.getElem?_eq_getElem hjl, Option.getD_some]; exact List.getElem_mem hjl
    have h0 := hpos _ hmem
    have wj : wrap64 ((j : Int) + 1) = ((j + 1 : Nat) : Int) := wr (by omega) (by omega)
    have hm : Int.tmod (v : Int) ((l.getD j 0 : Nat) : Int) = ((v % l.getD j 0 : Nat) : Int) := by rw [Int.tmod_eq_emod_of_nonneg (by omega)]; omega
    by_cases hd : v % l.getD j 0 = 0
    · obtain ⟨k, hk⟩ := hn ⟨_, hmem, hd⟩
      refine ⟨k + 2, ?_⟩
      rw [r4primes.l1, if_pos (by omega), if_pos rfl, if_pos (by omega), rd_ns l j hjl, if_neg (by omega), hm, hd, wj]
      rw [show (((0 : Nat) : Int) != 0) = false from rfl, r4primes.l1]
      by_cases hlt : ((j + 1 : Nat) : Int) < ((ns l).length : Int)
      · rw [if_pos hlt, if_neg (by decide), wv]; exact hk
      · rw [if_neg hlt, if_neg (by decide), wv]; exact hk
    · obtain ⟨k, hk⟩ := ih (j + 1) (by omega) (fun i hi => by
        by_cases e : i = j
        · rw [e]; exact hd
        · exact hp i (by omega))
      refine ⟨k + 1, ?_⟩
      rw [r4primes.l1, if_pos (by omega), if_pos rfl, if_pos (by omega), rd_ns l j hjl, if_neg (by omega), hm, wj]
      rw [show (((v % l.getD j 0 : Nat) : Int) != 0) = true from bne_iff_ne.2 (fun h => hd (Int.natCast_inj.1 (h : ((v % l.getD j 0 : Nat) : Int) = ((0 : Nat) : Int))))]
      exact hk
theorem pr_next : ∀ v : Fin 312, 2 ≤ v.val → below (v.val + 1) = (if (below v.val).all (fun x => v.val % x != 0) then below v.val ++ [v.val] else below v.val) := by decide +kernel
theorem pr_pos : ∀ x ∈ PR, 0 < x := by decide +kernel
theorem below_mem (v : Nat) : ∀ x ∈ below v, 0 < x := fun x h => pr_pos x (List.mem_filter.1 h).1
theorem below_len (v : Nat) : (below v).length ≤ 100 := Nat.le_trans (List.length_filter_le _ _) (by decide)
theorem primes_up (n top : Nat) (hn : (below top).length = n) (ht : top ≤ 312) (hlt : ∀ v : Fin 312, v.val < top → (below v.val).length < n) :
    ∀ m v : Nat, m + v = top → 2 ≤ v → ∃ k, r4primes.l0 k (n : Int) (ns (below v)) (v : Int) = some (ns (below top)) := by
  intro m
  induction m with
  | zero =>
    intro v hv _
    obtain rfl : v = top := by omega
    exact ⟨1, by rw [r4primes.l0, ns_len, if_neg (by omega)]⟩
  | succ m ih =>
    intro v hv h2
    have hl := hlt ⟨v, by omega⟩ (by show v < top; omega)
    have hx := pr_next ⟨v, by omega⟩ h2
    simp only at hl hx
    obtain ⟨k, hk⟩ := ih (v + 1) (by omega) (by omega)
    obtain ⟨k', hk'⟩ := primes_in (n : Int) v (below v) (by omega) (below_len v) (below_mem v) (ns (below top))
      (fun h => ⟨k, by rw [hx, if_pos (by rw [List.all_eq_true]; intro x hx'; simpa using h x hx')] at hk; exact hk⟩)
      (fun ⟨x, hm, h⟩ => ⟨k, by rw [hx, if_neg (by intro hc; rw [List.all_eq_true] at hc; have := hc x hm; simp [h] at this)] at hk; exact hk⟩)
      (below v).length 0 (by omega) (fun i hi => by omega)
    exact ⟨k' + 1, by rw [r4primes.l0, ns_len, if_pos (by omega)]; exact hk'⟩
theorem primes_64 : ∃ k, r4primes.f k 64 = some (ns PR) := by
  obtain ⟨k, hk⟩ := primes_up 64 312 (by decide +kernel) (by decide) (by decide +kernel) 310 2 rfl (by decide)
  exact ⟨k, by rw [show below 312 = PR by decide +kernel] at hk; exact hk⟩
theorem primes_8 : ∃ k, r4primes.f k 8 = some (ns (PR.take 8)) := by
  obtain ⟨k, hk⟩ := primes_up 8 20 (by decide +kernel) (by decide) (by decide +kernel) 18 2 rfl (by decide)
  exact ⟨k, by rw [show below 20 = PR.take 8 by decide +kernel] at hk; exact hk⟩
end Go.Proofs.YtklakmooaffjpaaDoor.DgsC
end
