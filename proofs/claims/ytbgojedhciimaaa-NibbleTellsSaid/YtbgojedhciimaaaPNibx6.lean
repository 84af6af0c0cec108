-- Written by a program of this session for this seat. Not trusted: Lean checks it.
import Derived.Test.YtbgojedhciimaaaPNibx0
import Derived.Test.YtbgojedhciimaaaPNibx1
import Derived.Test.YtbgojedhciimaaaPNibx2
namespace Go.Proofs.Ytbgojedhciimaaa.PNib
open Go.RowKit Go.Proofs.YtbgojedhciimaaaW.PrintWords Go.Proofs.YtbgojedhciimaaaW.PrintLast Go.Proofs.YtbgojedhciimaaaW.PrintMore
attribute [local go_sem] max2_int min2_int max_two min_two max_three min_three max_four min_four   -- for this text's walks alone
set_option linter.unusedVariables false
set_option linter.unusedSimpArgs false
open Go.Proofs.Ytbgojedhciimaaa.HW

/-! ### umbellaw02_NibbleBack: function 4 -/
mutual
def umbellaw02_NibbleBack.j0 : Nat → ByteArray → ByteArray → ByteArray → Bool → Option (Bool)
  | 0, _, _, _, _ => none
  | k + 1, x0, x1, x2, x32 => if x32 = true then ((umbellaw02_wakes.f k).bind fun t191 => (some t191)) else ((nibble_Of.f k x0).bind fun t192 => ((nibble_Key.f k t192).bind fun bt193 => (if bt193.2 = true then (if bt193.1.toList = x0.toList then (umbellaw02_NibbleBack.j1 k x1 x2 ((t192.size : Int) != (wrap64 (2 * (x0.size : Int))))) else (umbellaw02_NibbleBack.j1 k x1 x2 true)) else (umbellaw02_NibbleBack.j1 k x1 x2 true))))
def umbellaw02_NibbleBack.j1 : Nat → ByteArray → ByteArray → Bool → Option (Bool)
  | 0, _, _, _ => none
  | k + 1, x1, x2, x55 => if x55 = true then (some false) else ((nibble_Pack.f k x1).bind fun bt195 => ((nibble_Good.f k x1).bind fun t197 => (if (bt195.2 != t197) = true then (some false) else (if bt195.2 = true then (if bt195.1.size + x2.size ≤ 9223372036854775807 then ((nibble_Unpack.f k (bt195.1 ++ x2)).bind fun bt198 => (if bt198.2.2 = true then (if bt198.1.toList = x1.toList then (if bt198.2.1 = (bt195.1.size : Int) then (if (bt195.1.size : Int) = (wrap64 (1 + (wrap64 (Int.tdiv (wrap64 ((x1.size : Int) + 1)) 2)))) then (umbellaw02_NibbleBack.j2 k x2) else (some false)) else (some false)) else (some false)) else (some false))) else (none)) else (umbellaw02_NibbleBack.j2 k x2)))))
def umbellaw02_NibbleBack.j2 : Nat → ByteArray → Option (Bool)
  | 0, _ => none
  | k + 1, x2 => (nibble_Unpack.f k x2).bind fun bt201 => (if bt201.2.2 = true then ((nibble_Pack.f k bt201.1).bind fun bt204 => (if bt204.2 = true then (if bt201.2.1 ≥ 1 then (if bt201.2.1 ≤ (x2.size : Int) then (if 0 ≤ bt201.2.1 then (if bt204.1.toList = (x2.extract 0 (bt201.2.1 : Int).toNat).toList then ((umbellaw02_wakes.f k).bind fun t206 => (some t206)) else (some false)) else (none)) else (some false)) else (some false)) else (some false))) else (if bt201.1.toList = ([] : List UInt8) then (if bt201.2.1 = 0 then ((umbellaw02_wakes.f k).bind fun t207 => (some t207)) else (some false)) else (some false)))
end
def umbellaw02_NibbleBack.f (k : Nat) (a0 : ByteArray) (a1 : ByteArray) (a2 : ByteArray) : Option (Bool) := if (a0.size : Int) > 500 then (umbellaw02_NibbleBack.j0 k a0 a1 a2 true) else (if (a1.size : Int) > 500 then (umbellaw02_NibbleBack.j0 k a0 a1 a2 true) else (umbellaw02_NibbleBack.j0 k a0 a1 a2 (decide ((a2.size : Int) > 500))))
theorem umbellaw02_NibbleBack.mono_l : ∀ k, (∀ y0 y1 y2 y3, LeO (umbellaw02_NibbleBack.j0 k y0 y1 y2 y3) (umbellaw02_NibbleBack.j0 (k + 1) y0 y1 y2 y3)) ∧ (∀ y0 y1 y2, LeO (umbellaw02_NibbleBack.j1 k y0 y1 y2) (umbellaw02_NibbleBack.j1 (k + 1) y0 y1 y2)) ∧ (∀ y0, LeO (umbellaw02_NibbleBack.j2 k y0) (umbellaw02_NibbleBack.j2 (k + 1) y0))
  | 0 => ⟨fun _ _ _ _ r h => by simp [umbellaw02_NibbleBack.j0] at h, fun _ _ _ r h => by simp [umbellaw02_NibbleBack.j1] at h, fun _ r h => by simp [umbellaw02_NibbleBack.j2] at h⟩
  | k + 1 => by
    obtain ⟨ih0, ih1, ih2⟩ := umbellaw02_NibbleBack.mono_l k
    refine ⟨?_, ?_, ?_⟩
    · intro y0 y1 y2 y3
      unfold umbellaw02_NibbleBack.j0
      repeat' first
      | (with_reducible exact ih0 _ _ _ _)
      | (with_reducible exact ih1 _ _ _)
      | (with_reducible exact ih2 _)
      | (with_reducible exact nibble_Good.mono _ _)
      | (with_reducible exact nibble_Key.mono _ _)
      | (with_reducible exact nibble_Of.mono _ _)
      | (with_reducible exact nibble_Pack.mono _ _)
      | (with_reducible exact nibble_Unpack.mono _ _)
      | (with_reducible exact umbellaw02_wakes.mono _)
      | (with_reducible exact LeO.refl _)
      | (with_reducible exact LeO.none _)
      | (with_reducible refine LeO.ite ?_ ?_)
      | (with_reducible refine LeO.bind ?_ (fun _ => ?_))
      | exact ih0 _ _ _ _
      | exact ih1 _ _ _
      | exact ih2 _
      | exact nibble_Good.mono _ _
      | exact nibble_Key.mono _ _
      | exact nibble_Of.mono _ _
      | exact nibble_Pack.mono _ _
      | exact nibble_Unpack.mono _ _
      | exact umbellaw02_wakes.mono _
      | exact LeO.none _
      | refine LeO.ite ?_ ?_
      | refine LeO.bind ?_ (fun _ => ?_)
    · intro y0 y1 y2
      unfold umbellaw02_NibbleBack.j1
      repeat' first
      | (with_reducible exact ih0 _ _ _ _)
      | (with_reducible exact ih1 _ _ _)
      | (with_reducible exact ih2 _)
      | (with_reducible exact nibble_Good.mono _ _)
      | (with_reducible exact nibble_Key.mono _ _)
      | (with_reducible exact nibble_Of.mono _ _)
      | (with_reducible exact nibble_Pack.mono _ _)
      | (with_reducible exact nibble_Unpack.mono _ _)
      | (with_reducible exact umbellaw02_wakes.mono _)
      | (with_reducible exact LeO.refl _)
      | (with_reducible exact LeO.none _)
      | (with_reducible refine LeO.ite ?_ ?_)
      | (with_reducible refine LeO.bind ?_ (fun _ => ?_))
      | exact ih0 _ _ _ _
      | exact ih1 _ _ _
      | exact ih2 _
      | exact nibble_Good.mono _ _
      | exact nibble_Key.mono _ _
      | exact nibble_Of.mono _ _
      | exact nibble_Pack.mono _ _
      | exact nibble_Unpack.mono _ _
      | exact umbellaw02_wakes.mono _
      | exact LeO.none _
      | refine LeO.ite ?_ ?_
      | refine LeO.bind ?_ (fun _ => ?_)
    · intro y0
      unfold umbellaw02_NibbleBack.j2
      repeat' first
      | (with_reducible exact ih0 _ _ _ _)
      | (with_reducible exact ih1 _ _ _)
      | (with_reducible exact ih2 _)
      | (with_reducible exact nibble_Good.mono _ _)
      | (with_reducible exact nibble_Key.mono _ _)
      | (with_reducible exact nibble_Of.mono _ _)
      | (with_reducible exact nibble_Pack.mono _ _)
      | (with_reducible exact nibble_Unpack.mono _ _)
      | (with_reducible exact umbellaw02_wakes.mono _)
      | (with_reducible exact LeO.refl _)
      | (with_reducible exact LeO.none _)
      | (with_reducible refine LeO.ite ?_ ?_)
      | (with_reducible refine LeO.bind ?_ (fun _ => ?_))
      | exact ih0 _ _ _ _
      | exact ih1 _ _ _
      | exact ih2 _
      | exact nibble_Good.mono _ _
      | exact nibble_Key.mono _ _
      | exact nibble_Of.mono _ _
      | exact nibble_Pack.mono _ _
      | exact nibble_Unpack.mono _ _
      | exact umbellaw02_wakes.mono _
      | exact LeO.none _
      | refine LeO.ite ?_ ?_
      | refine LeO.bind ?_ (fun _ => ?_)
theorem umbellaw02_NibbleBack.mono : ∀ a0 a1 a2 k, LeO (umbellaw02_NibbleBack.f k a0 a1 a2) (umbellaw02_NibbleBack.f (k + 1) a0 a1 a2) := by
  intro a0 a1 a2 k
  obtain ⟨ih0, ih1, ih2⟩ := umbellaw02_NibbleBack.mono_l k
  unfold umbellaw02_NibbleBack.f
  repeat' first
      | (with_reducible exact ih0 _ _ _ _)
      | (with_reducible exact ih1 _ _ _)
      | (with_reducible exact ih2 _)
      | (with_reducible exact nibble_Good.mono _ _)
      | (with_reducible exact nibble_Key.mono _ _)
      | (with_reducible exact nibble_Of.mono _ _)
      | (with_reducible exact nibble_Pack.mono _ _)
      | (with_reducible exact nibble_Unpack.mono _ _)
      | (with_reducible exact umbellaw02_wakes.mono _)
      | (with_reducible exact LeO.refl _)
      | (with_reducible exact LeO.none _)
      | (with_reducible refine LeO.ite ?_ ?_)
      | (with_reducible refine LeO.bind ?_ (fun _ => ?_))
      | exact ih0 _ _ _ _
      | exact ih1 _ _ _
      | exact ih2 _
      | exact nibble_Good.mono _ _
      | exact nibble_Key.mono _ _
      | exact nibble_Of.mono _ _
      | exact nibble_Pack.mono _ _
      | exact nibble_Unpack.mono _ _
      | exact umbellaw02_wakes.mono _
      | exact LeO.none _
      | refine LeO.ite ?_ ?_
      | refine LeO.bind ?_ (fun _ => ?_)
set_option maxHeartbeats 8000000 in
set_option maxRecDepth 100000 in
theorem umbellaw02_NibbleBack.calls (k : Nat) (a0 : ByteArray) (a1 : ByteArray) (a2 : ByteArray) (r : Bool) (w : World) (h : umbellaw02_NibbleBack.f k a0 a1 a2 = some r) :
    Calls Try.prog 4 #[.string a0, .string a1, .string a2] w fun e w' => e = .returned (.bool r) ∧ Below w.heap.size w w' := by
  have HB := Aside0.mk (Below.refl w.heap.size w)
  have H : (if (a0.size : Int) > 500 then (umbellaw02_NibbleBack.j0 k a0 a1 a2 true) else (if (a1.size : Int) > 500 then (umbellaw02_NibbleBack.j0 k a0 a1 a2 true) else (umbellaw02_NibbleBack.j0 k a0 a1 a2 (decide ((a2.size : Int) > 500))))) = some r := h
  clear h
  have HC4 := Aside0.mk H
  clear H
  go_enter Try.func4, Try.ntmps4
  go_upto_region 1 with (fail)
  go_cut [32] (fun v32 wc => ∃ (kq : Nat) (x32_3 : Bool), v32 = .bool x32_3 ∧ Aside0 (umbellaw02_NibbleBack.j0 kq a0 a1 a2 x32_3 = some r) ∧ Aside0 (kq ≤ k) ∧ Aside0 (Below w.heap.size w wc))
  case first =>
    have H := HC4.out
    clear HC4
    by_cases c5 : (a0.size : Int) > 500
    · rw [if_pos c5] at H
      have c5b0 : decide (500 < (a0.size : Int)) = true := decide_eq_true c5
      have c5b1 : decide (500 < a0.size) = true := decide_eq_true (by omega)
      clear c5
      (first | rw [c5b0] | (simp only [i64_w, i32_w]; rw [c5b0]) | skip)
      have H' := Aside0.mk H
      clear H
      go_wp2
      go_meet
      case rel => exact ⟨_, (true), (by first | rfl | (simp; done) | (simp [*]; done)), H', ⟨by first | omega | exact Nat.le_refl _⟩, ⟨by repeat (first | (with_reducible first | exact HB.out | apply below_alloc | apply pw_below_drewN | apply below_drew1) | exact HB.out)⟩⟩
    · rw [if_neg c5] at H
      have c5b0 : decide (500 < (a0.size : Int)) = false := decide_eq_false c5
      have c5b1 : decide (500 < a0.size) = false := decide_eq_false (by omega)
      clear c5
      (first | rw [c5b0] | (simp only [i64_w, i32_w]; rw [c5b0]) | skip)
      by_cases c6 : (a1.size : Int) > 500
      · rw [if_pos c6] at H
        have c6b0 : decide (500 < (a1.size : Int)) = true := decide_eq_true c6
        have c6b1 : decide (500 < a1.size) = true := decide_eq_true (by omega)
        clear c6
        have H' := Aside0.mk H
        clear H
        go_wp2
        go_meet
        case rel => exact ⟨_, (true), (by first | rfl | (simp; done) | (simp [*]; done)), H', ⟨by first | omega | exact Nat.le_refl _⟩, ⟨by repeat (first | (with_reducible first | exact HB.out | apply below_alloc | apply pw_below_drewN | apply below_drew1) | exact HB.out)⟩⟩
      · rw [if_neg c6] at H
        have c6b0 : decide (500 < (a1.size : Int)) = false := decide_eq_false c6
        have c6b1 : decide (500 < a1.size) = false := decide_eq_false (by omega)
        clear c6
        have H' := Aside0.mk H
        clear H
        go_wp2
        go_meet
        case rel => exact ⟨_, (decide ((a2.size : Int) > 500)), (by first | rfl | (simp; done) | (simp [*]; done)), H', ⟨by first | omega | exact Nat.le_refl _⟩, ⟨by repeat (first | (with_reducible first | exact HB.out | apply below_alloc | apply pw_below_drewN | apply below_drew1) | exact HB.out)⟩⟩
  case rest =>
    clear HC4
    try clear p2
    try clear c4
    try clear c5
    try clear c5b0
    try clear c5b1
    try clear c6
    try clear c6b0
    try clear c6b1
    obtain ⟨kq, x32_3, rfl, HA, HJ3, HB⟩ := hcut
    cases kq with
    | zero => exact absurd HA.out (by simp [umbellaw02_NibbleBack.j0])
    | succ kj3 =>
      have H := HA.out
      clear HA
      simp only [umbellaw02_NibbleBack.j0] at H
      by_cases c7 : x32_3 = true
      · subst c7
        have H1 : ((umbellaw02_wakes.f kj3).bind fun t191 => (some t191)) = some r := by rw [if_pos rfl] at H; exact H
        clear H
        have H := H1
        clear H1
        replace H := Option.bind_eq_some_iff.mp H
        obtain ⟨t191, A80, H⟩ := H
        replace H : (some t191) = some r := H
        have A8 := Aside0.mk A80
        clear A80
        obtain rfl := Option.some.inj H
        go_wp2_with (first | ((with_reducible refine gate_callee (f := 11) rfl ?_); refine goesL_ (some 33) rfl rfl Try.func11 (by kernel_rfl) rfl #[] rfl (by (try simp only [List.map_toArray, List.map_cons, List.map_nil]); first | done | rfl | (simp only [List.length_drop, List.length_take]; rfl)) ?_; (with_reducible refine (umbellaw02_wakes.calls kj3  t191 _ A8.out).mono ?_); rintro e w9 ⟨rfl, hb⟩; refine ⟨_, rfl, ?_⟩; have n0_ := Aside0.mk (below_step (by repeat (first | (with_reducible first | exact HB.out | apply below_alloc | apply pw_below_drewN | apply below_drew1) | exact HB.out)) hb); clear HB; have HB := n0_; clear n0_; (try clear hb); (try clear hb2); (try clear hk); (try clear hi)))
        go_ret
        exact ⟨by first | rfl | (simp [errW_none, errW_some] <;> rfl) | (simp [*, errW_none, errW_some] <;> rfl), by repeat (first | (with_reducible first | exact HB.out | apply below_alloc | apply pw_below_drewN | apply below_drew1) | exact HB.out)⟩
      · replace c7 := Bool.eq_false_iff.mpr c7
        subst c7
        have H1 : ((nibble_Of.f kj3 a0).bind fun t192 => ((nibble_Key.f kj3 t192).bind fun bt193 => (if bt193.2 = true then (if bt193.1.toList = a0.toList then (umbellaw02_NibbleBack.j1 kj3 a1 a2 ((t192.size : Int) != (wrap64 (2 * (a0.size : Int))))) else (umbellaw02_NibbleBack.j1 kj3 a1 a2 true)) else (umbellaw02_NibbleBack.j1 kj3 a1 a2 true)))) = some r := by rw [if_neg (show ¬ (false = true) by decide)] at H; exact H
        clear H
        have H := H1
        clear H1
        replace H := Option.bind_eq_some_iff.mp H
        obtain ⟨t192, A100, H⟩ := H
        replace H : ((nibble_Key.f kj3 t192).bind fun bt193 => (if bt193.2 = true then (if bt193.1.toList = a0.toList then (umbellaw02_NibbleBack.j1 kj3 a1 a2 ((t192.size : Int) != (wrap64 (2 * (a0.size : Int))))) else (umbellaw02_NibbleBack.j1 kj3 a1 a2 true)) else (umbellaw02_NibbleBack.j1 kj3 a1 a2 true))) = some r := H
        have A10 := Aside0.mk A100
        clear A100
        replace H := Option.bind_eq_some_iff.mp H
        obtain ⟨⟨t193, t194⟩, A110, H⟩ := H
        replace H : (if t194 = true then (if t193.toList = a0.toList then (umbellaw02_NibbleBack.j1 kj3 a1 a2 ((t192.size : Int) != (wrap64 (2 * (a0.size : Int))))) else (umbellaw02_NibbleBack.j1 kj3 a1 a2 true)) else (umbellaw02_NibbleBack.j1 kj3 a1 a2 true)) = some r := H
        have A11 := Aside0.mk A110
        clear A110
        have HC12 := Aside0.mk H
        clear H
        go_upto_region 5 with (first | ((with_reducible refine gate_callee (f := 18) rfl ?_); refine goesL_ (some 35) rfl rfl Try.func18 (by kernel_rfl) rfl #[.string a0] rfl (by (try simp only [List.map_toArray, List.map_cons, List.map_nil]); first | done | rfl | (simp only [List.length_drop, List.length_take]; rfl)) ?_; (with_reducible refine (nibble_Of.calls kj3 a0 t192 _ A10.out).mono ?_); rintro e w13 ⟨rfl, hb⟩; refine ⟨_, rfl, ?_⟩; have n0_ := Aside0.mk (below_step (by repeat (first | (with_reducible first | exact HB.out | apply below_alloc | apply pw_below_drewN | apply below_drew1) | exact HB.out)) hb); clear HB; have HB := n0_; clear n0_; (try clear hb); (try clear hb2); (try clear hk); (try clear hi)) | ((with_reducible refine gate_callee (f := 12) rfl ?_); refine goesL_ (some 38) rfl rfl Try.func12 (by kernel_rfl) rfl #[.string t192] rfl (by (try simp only [List.map_toArray, List.map_cons, List.map_nil]); first | done | rfl | (simp only [List.length_drop, List.length_take]; rfl)) ?_; (with_reducible refine (nibble_Key.calls kj3 t192 t193 t194 _ A11.out).mono ?_); rintro e w14 ⟨rfl, hb⟩; refine ⟨_, rfl, ?_⟩; have n0_ := Aside0.mk (below_step (by repeat (first | (with_reducible first | exact HB.out | apply below_alloc | apply pw_below_drewN | apply below_drew1) | exact HB.out)) hb); clear HB; have HB := n0_; clear n0_; (try clear hb); (try clear hb2); (try clear hk); (try clear hi)))
        (try simp only [Act.put, List.setIfInBounds_toArray, List.set_cons_zero, List.set_cons_succ])
        go_cut [55] (fun v55 wc => ∃ (kq : Nat) (x55_11 : Bool), v55 = .bool x55_11 ∧ Aside0 (umbellaw02_NibbleBack.j1 kq a1 a2 x55_11 = some r) ∧ Aside0 (kq ≤ kj3) ∧ Aside0 (Below w.heap.size w wc))
        case first =>
          have H := HC12.out
          clear HC12
          by_cases c15 : t194 = true
          · subst c15
            have H1 : (if t193.toList = a0.toList then (umbellaw02_NibbleBack.j1 kj3 a1 a2 ((t192.size : Int) != (wrap64 (2 * (a0.size : Int))))) else (umbellaw02_NibbleBack.j1 kj3 a1 a2 true)) = some r := by rw [if_pos rfl] at H; exact H
            clear H
            have H := H1
            clear H1
            by_cases c16 : t193.toList = a0.toList
            · rw [if_pos c16] at H
              have c16b0 : (t193.toList == a0.toList) = true := beq_iff_eq.mpr c16
              have c16b1 : (t193.toList != a0.toList) = false := bne_eq_false_iff_eq.mpr c16
              clear c16
              (first | rw [c16b0] | (simp only [i64_w, i32_w]; rw [c16b0]) | skip)
              have H' := Aside0.mk H
              clear H
              go_wp2
              go_meet
              case rel => exact ⟨_, (((t192.size : Int) != (wrap64 (2 * (a0.size : Int))))), (by first | rfl | (simp; done) | (simp [*]; done)), H', ⟨by have := HJ3.out; first | omega | exact Nat.le_refl _⟩, ⟨by repeat (first | (with_reducible first | exact HB.out | apply below_alloc | apply pw_below_drewN | apply below_drew1) | exact HB.out)⟩⟩
            · rw [if_neg c16] at H
              have c16b0 : (t193.toList == a0.toList) = false := beq_eq_false_iff_ne.mpr c16
              have c16b1 : (t193.toList != a0.toList) = true := bne_iff_ne.mpr c16
              (first | rw [c16b0] | (simp only [i64_w, i32_w]; rw [c16b0]) | skip)
              have H' := Aside0.mk H
              clear H
              go_wp2
              go_meet
              case rel => exact ⟨_, (true), (by first | rfl | (simp; done) | (simp [*]; done)), H', ⟨by have := HJ3.out; first | omega | exact Nat.le_refl _⟩, ⟨by repeat (first | (with_reducible first | exact HB.out | apply below_alloc | apply pw_below_drewN | apply below_drew1) | exact HB.out)⟩⟩
          · replace c15 := Bool.eq_false_iff.mpr c15
            subst c15
            have H1 : (umbellaw02_NibbleBack.j1 kj3 a1 a2 true) = some r := by rw [if_neg (show ¬ (false = true) by decide)] at H; exact H
            clear H
            have H := H1
            clear H1
            have H' := Aside0.mk H
            clear H
            go_wp2
            go_meet
            case rel => exact ⟨_, (true), (by first | rfl | (simp; done) | (simp [*]; done)), H', ⟨by have := HJ3.out; first | omega | exact Nat.le_refl _⟩, ⟨by repeat (first | (with_reducible first | exact HB.out | apply below_alloc | apply pw_below_drewN | apply below_drew1) | exact HB.out)⟩⟩
        case rest =>
          clear HC12
          try clear c1
          try clear p2
          try clear c4
          try clear c5
          try clear c5b0
          try clear c5b1
          try clear c6
          try clear c6b0
          try clear c6b1
          try clear p6
          try clear c7
          try clear c11
          try clear c12
          try clear c15
          try clear c16
          try clear c16b0
          try clear c16b1
          try clear p2
          obtain ⟨kq, x55_11, rfl, HA, HJ11, HB⟩ := hcut
          cases kq with
          | zero => exact absurd HA.out (by simp [umbellaw02_NibbleBack.j1])
          | succ kj11 =>
            have H := HA.out
            clear HA
            simp only [umbellaw02_NibbleBack.j1] at H
            by_cases c17 : x55_11 = true
            · subst c17
              have H1 : (some false) = some r := by rw [if_pos rfl] at H; exact H
              clear H
              have H := H1
              clear H1
              obtain rfl := Option.some.inj H
              go_wp2
              go_ret
              exact ⟨by first | rfl | (simp [errW_none, errW_some] <;> rfl) | (simp [*, errW_none, errW_some] <;> rfl), by repeat (first | (with_reducible first | exact HB.out | apply below_alloc | apply pw_below_drewN | apply below_drew1) | exact HB.out)⟩
            · replace c17 := Bool.eq_false_iff.mpr c17
              subst c17
              have H1 : ((nibble_Pack.f kj11 a1).bind fun bt195 => ((nibble_Good.f kj11 a1).bind fun t197 => (if (bt195.2 != t197) = true then (some false) else (if bt195.2 = true then (if bt195.1.size + a2.size ≤ 9223372036854775807 then ((nibble_Unpack.f kj11 (bt195.1 ++ a2)).bind fun bt198 => (if bt198.2.2 = true then (if bt198.1.toList = a1.toList then (if bt198.2.1 = (bt195.1.size : Int) then (if (bt195.1.size : Int) = (wrap64 (1 + (wrap64 (Int.tdiv (wrap64 ((a1.size : Int) + 1)) 2)))) then (umbellaw02_NibbleBack.j2 kj11 a2) else (some false)) else (some false)) else (some false)) else (some false))) else (none)) else (umbellaw02_NibbleBack.j2 kj11 a2))))) = some r := by rw [if_neg (show ¬ (false = true) by decide)] at H; exact H
              clear H
              have H := H1
              clear H1
              replace H := Option.bind_eq_some_iff.mp H
              obtain ⟨⟨t195, t196⟩, A180, H⟩ := H
              replace H : ((nibble_Good.f kj11 a1).bind fun t197 => (if (t196 != t197) = true then (some false) else (if t196 = true then (if t195.size + a2.size ≤ 9223372036854775807 then ((nibble_Unpack.f kj11 (t195 ++ a2)).bind fun bt198 => (if bt198.2.2 = true then (if bt198.1.toList = a1.toList then (if bt198.2.1 = (t195.size : Int) then (if (t195.size : Int) = (wrap64 (1 + (wrap64 (Int.tdiv (wrap64 ((a1.size : Int) + 1)) 2)))) then (umbellaw02_NibbleBack.j2 kj11 a2) else (some false)) else (some false)) else (some false)) else (some false))) else (none)) else (umbellaw02_NibbleBack.j2 kj11 a2)))) = some r := H
              have A18 := Aside0.mk A180
              clear A180
              replace H := Option.bind_eq_some_iff.mp H
              obtain ⟨t197, A190, H⟩ := H
              replace H : (if (t196 != t197) = true then (some false) else (if t196 = true then (if t195.size + a2.size ≤ 9223372036854775807 then ((nibble_Unpack.f kj11 (t195 ++ a2)).bind fun bt198 => (if bt198.2.2 = true then (if bt198.1.toList = a1.toList then (if bt198.2.1 = (t195.size : Int) then (if (t195.size : Int) = (wrap64 (1 + (wrap64 (Int.tdiv (wrap64 ((a1.size : Int) + 1)) 2)))) then (umbellaw02_NibbleBack.j2 kj11 a2) else (some false)) else (some false)) else (some false)) else (some false))) else (none)) else (umbellaw02_NibbleBack.j2 kj11 a2))) = some r := H
              have A19 := Aside0.mk A190
              clear A190
              by_cases c20 : (t196 != t197) = true
              · rw [if_pos c20] at H
                have c20b0 : (t196 != t197) = true := c20
                (try (have c20b1 : decide (t196 = t197) = false := by simpa using c20))
                (try (have c20b2 : (t196 == t197) = false := by simpa using c20))
                (try (have c20b3 : ¬ (t196 = t197) := by simpa using c20))
                clear c20
                obtain rfl := Option.some.inj H
                go_wp2_with (first | ((with_reducible refine gate_callee (f := 13) rfl ?_); refine goesL_ (some 58) rfl rfl Try.func13 (by kernel_rfl) rfl #[.string a1] rfl (by (try simp only [List.map_toArray, List.map_cons, List.map_nil]); first | done | rfl | (simp only [List.length_drop, List.length_take]; rfl)) ?_; (with_reducible refine (nibble_Pack.calls kj11 a1 t195 t196 _ A18.out).mono ?_); rintro e w21 ⟨rfl, hb⟩; refine ⟨_, rfl, ?_⟩; have n0_ := Aside0.mk (below_step (by repeat (first | (with_reducible first | exact HB.out | apply below_alloc | apply pw_below_drewN | apply below_drew1) | exact HB.out)) hb); clear HB; have HB := n0_; clear n0_; (try clear hb); (try clear hb2); (try clear hk); (try clear hi)) | ((with_reducible refine gate_callee (f := 22) rfl ?_); refine goesL_ (some 63) rfl rfl Try.func22 (by kernel_rfl) rfl #[.string a1] rfl (by (try simp only [List.map_toArray, List.map_cons, List.map_nil]); first | done | rfl | (simp only [List.length_drop, List.length_take]; rfl)) ?_; (with_reducible refine (nibble_Good.calls kj11 a1 t197 _ A19.out).mono ?_); rintro e w22 ⟨rfl, hb⟩; refine ⟨_, rfl, ?_⟩; have n0_ := Aside0.mk (below_step (by repeat (first | (with_reducible first | exact HB.out | apply below_alloc | apply pw_below_drewN | apply below_drew1) | exact HB.out)) hb); clear HB; have HB := n0_; clear n0_; (try clear hb); (try clear hb2); (try clear hk); (try clear hi)))
                go_ret
                exact ⟨by first | rfl | (simp [errW_none, errW_some] <;> rfl) | (simp [*, errW_none, errW_some] <;> rfl), by repeat (first | (with_reducible first | exact HB.out | apply below_alloc | apply pw_below_drewN | apply below_drew1) | exact HB.out)⟩
              · rw [if_neg c20] at H
                have c20b0 : (t196 != t197) = false := by simpa using c20
                (try (have c20b1 : decide (t196 = t197) = true := by simpa using c20))
                (try (have c20b2 : (t196 == t197) = true := by simpa using c20))
                clear c20
                have HC23 := Aside0.mk H
                clear H
                go_upto_if 65 with (first | ((with_reducible refine gate_callee (f := 13) rfl ?_); refine goesL_ (some 58) rfl rfl Try.func13 (by kernel_rfl) rfl #[.string a1] rfl (by (try simp only [List.map_toArray, List.map_cons, List.map_nil]); first | done | rfl | (simp only [List.length_drop, List.length_take]; rfl)) ?_; (with_reducible refine (nibble_Pack.calls kj11 a1 t195 t196 _ A18.out).mono ?_); rintro e w24 ⟨rfl, hb⟩; refine ⟨_, rfl, ?_⟩; have n0_ := Aside0.mk (below_step (by repeat (first | (with_reducible first | exact HB.out | apply below_alloc | apply pw_below_drewN | apply below_drew1) | exact HB.out)) hb); clear HB; have HB := n0_; clear n0_; (try clear hb); (try clear hb2); (try clear hk); (try clear hi)) | ((with_reducible refine gate_callee (f := 22) rfl ?_); refine goesL_ (some 63) rfl rfl Try.func22 (by kernel_rfl) rfl #[.string a1] rfl (by (try simp only [List.map_toArray, List.map_cons, List.map_nil]); first | done | rfl | (simp only [List.length_drop, List.length_take]; rfl)) ?_; (with_reducible refine (nibble_Good.calls kj11 a1 t197 _ A19.out).mono ?_); rintro e w25 ⟨rfl, hb⟩; refine ⟨_, rfl, ?_⟩; have n0_ := Aside0.mk (below_step (by repeat (first | (with_reducible first | exact HB.out | apply below_alloc | apply pw_below_drewN | apply below_drew1) | exact HB.out)) hb); clear HB; have HB := n0_; clear n0_; (try clear hb); (try clear hb2); (try clear hk); (try clear hi)))
                (try simp only [Act.put, List.setIfInBounds_toArray, List.set_cons_zero, List.set_cons_succ])
                go_cut [] (fun wc => ∃ (kq : Nat), Aside0 (umbellaw02_NibbleBack.j2 kq a2 = some r) ∧ Aside0 (kq ≤ kj11) ∧ Aside0 (Below w.heap.size w wc))
                case first =>
                  have H := HC23.out
                  clear HC23
                  by_cases c26 : t196 = true
                  · subst c26
                    have H1 : (if t195.size + a2.size ≤ 9223372036854775807 then ((nibble_Unpack.f kj11 (t195 ++ a2)).bind fun bt198 => (if bt198.2.2 = true then (if bt198.1.toList = a1.toList then (if bt198.2.1 = (t195.size : Int) then (if (t195.size : Int) = (wrap64 (1 + (wrap64 (Int.tdiv (wrap64 ((a1.size : Int) + 1)) 2)))) then (umbellaw02_NibbleBack.j2 kj11 a2) else (some false)) else (some false)) else (some false)) else (some false))) else (none)) = some r := by rw [if_pos rfl] at H; exact H
                    clear H
                    have H := H1
                    clear H1
                    by_cases c27 : t195.size + a2.size ≤ 9223372036854775807
                    · rw [if_pos c27] at H
                      have c27b0 := eq_true c27
                      have c27b1 : decide (t195.size + a2.size ≤ 9223372036854775807) = true := decide_eq_true c27
                      try have c27b2 : (9223372036854775807 < t195.size + a2.size) = False := eq_false (Nat.not_lt.2 c27)
                      replace H := Option.bind_eq_some_iff.mp H
                      obtain ⟨⟨t198, t199, t200⟩, A280, H⟩ := H
                      replace H : (if t200 = true then (if t198.toList = a1.toList then (if t199 = (t195.size : Int) then (if (t195.size : Int) = (wrap64 (1 + (wrap64 (Int.tdiv (wrap64 ((a1.size : Int) + 1)) 2)))) then (umbellaw02_NibbleBack.j2 kj11 a2) else (some false)) else (some false)) else (some false)) else (some false)) = some r := H
                      have A28 := Aside0.mk A280
                      clear A280
                      by_cases c29 : t200 = true
                      · subst c29
                        have H1 : (if t198.toList = a1.toList then (if t199 = (t195.size : Int) then (if (t195.size : Int) = (wrap64 (1 + (wrap64 (Int.tdiv (wrap64 ((a1.size : Int) + 1)) 2)))) then (umbellaw02_NibbleBack.j2 kj11 a2) else (some false)) else (some false)) else (some false)) = some r := by rw [if_pos rfl] at H; exact H
                        clear H
                        have H := H1
                        clear H1
                        by_cases c30 : t198.toList = a1.toList
                        · rw [if_pos c30] at H
                          have c30b0 : (t198.toList == a1.toList) = true := beq_iff_eq.mpr c30
                          have c30b1 : (t198.toList != a1.toList) = false := bne_eq_false_iff_eq.mpr c30
                          clear c30
                          (first | rw [c30b0] | (simp only [i64_w, i32_w]; rw [c30b0]) | skip)
                          by_cases c31 : t199 = (t195.size : Int)
                          · rw [if_pos c31] at H
                            have c31b0 : (t199 == (t195.size : Int)) = true := beq_iff_eq.mpr c31
                            have c31b1 : (t199 != (t195.size : Int)) = false := bne_eq_false_iff_eq.mpr c31
                            clear c31
                            by_cases c32 : (t195.size : Int) = (wrap64 (1 + (wrap64 (Int.tdiv (wrap64 ((a1.size : Int) + 1)) 2))))
                            · rw [if_pos c32] at H
                              have c32b0 : ((t195.size : Int) == (wrap64 (1 + (wrap64 (Int.tdiv (wrap64 ((a1.size : Int) + 1)) 2))))) = true := beq_iff_eq.mpr c32
                              have c32b1 : ((t195.size : Int) != (wrap64 (1 + (wrap64 (Int.tdiv (wrap64 ((a1.size : Int) + 1)) 2))))) = false := bne_eq_false_iff_eq.mpr c32
                              clear c32
                              have H' := Aside0.mk H
                              clear H
                              go_wp2_with (first | ((with_reducible refine gate_callee (f := 14) rfl ?_); refine goesL_ (some 70) rfl rfl Try.func14 (by kernel_rfl) rfl #[.string (t195 ++ a2)] rfl (by (try simp only [List.map_toArray, List.map_cons, List.map_nil]); first | done | rfl | (simp only [List.length_drop, List.length_take]; rfl)) ?_; (with_reducible refine (nibble_Unpack.calls kj11 (t195 ++ a2) t198 t199 true _ A28.out).mono ?_); rintro e w33 ⟨rfl, hb⟩; refine ⟨_, rfl, ?_⟩; have n0_ := Aside0.mk (below_step (by repeat (first | (with_reducible first | exact HB.out | apply below_alloc | apply pw_below_drewN | apply below_drew1) | exact HB.out)) hb); clear HB; have HB := n0_; clear n0_; (try clear hb); (try clear hb2); (try clear hk); (try clear hi)))
                              go_meet
                              case rel => exact ⟨_, H', ⟨by have := HJ3.out; have := HJ11.out; first | omega | exact Nat.le_refl _⟩, ⟨by repeat (first | (with_reducible first | exact HB.out | apply below_alloc | apply pw_below_drewN | apply below_drew1) | exact HB.out)⟩⟩
                            · rw [if_neg c32] at H
                              have c32b0 : ((t195.size : Int) == (wrap64 (1 + (wrap64 (Int.tdiv (wrap64 ((a1.size : Int) + 1)) 2))))) = false := beq_eq_false_iff_ne.mpr c32
                              have c32b1 : ((t195.size : Int) != (wrap64 (1 + (wrap64 (Int.tdiv (wrap64 ((a1.size : Int) + 1)) 2))))) = true := bne_iff_ne.mpr c32
                              obtain rfl := Option.some.inj H
                              go_wp2_with (first | ((with_reducible refine gate_callee (f := 14) rfl ?_); refine goesL_ (some 70) rfl rfl Try.func14 (by kernel_rfl) rfl #[.string (t195 ++ a2)] rfl (by (try simp only [List.map_toArray, List.map_cons, List.map_nil]); first | done | rfl | (simp only [List.length_drop, List.length_take]; rfl)) ?_; (with_reducible refine (nibble_Unpack.calls kj11 (t195 ++ a2) t198 t199 true _ A28.out).mono ?_); rintro e w34 ⟨rfl, hb⟩; refine ⟨_, rfl, ?_⟩; have n0_ := Aside0.mk (below_step (by repeat (first | (with_reducible first | exact HB.out | apply below_alloc | apply pw_below_drewN | apply below_drew1) | exact HB.out)) hb); clear HB; have HB := n0_; clear n0_; (try clear hb); (try clear hb2); (try clear hk); (try clear hi)))
                              go_ret
                              exact ⟨by first | rfl | (simp [errW_none, errW_some] <;> rfl) | (simp [*, errW_none, errW_some] <;> rfl), by repeat (first | (with_reducible first | exact HB.out | apply below_alloc | apply pw_below_drewN | apply below_drew1) | exact HB.out)⟩
                          · rw [if_neg c31] at H
                            have c31b0 : (t199 == (t195.size : Int)) = false := beq_eq_false_iff_ne.mpr c31
                            have c31b1 : (t199 != (t195.size : Int)) = true := bne_iff_ne.mpr c31
                            obtain rfl := Option.some.inj H
                            go_wp2_with (first | ((with_reducible refine gate_callee (f := 14) rfl ?_); refine goesL_ (some 70) rfl rfl Try.func14 (by kernel_rfl) rfl #[.string (t195 ++ a2)] rfl (by (try simp only [List.map_toArray, List.map_cons, List.map_nil]); first | done | rfl | (simp only [List.length_drop, List.length_take]; rfl)) ?_; (with_reducible refine (nibble_Unpack.calls kj11 (t195 ++ a2) t198 t199 true _ A28.out).mono ?_); rintro e w35 ⟨rfl, hb⟩; refine ⟨_, rfl, ?_⟩; have n0_ := Aside0.mk (below_step (by repeat (first | (with_reducible first | exact HB.out | apply below_alloc | apply pw_below_drewN | apply below_drew1) | exact HB.out)) hb); clear HB; have HB := n0_; clear n0_; (try clear hb); (try clear hb2); (try clear hk); (try clear hi)))
                            go_ret
                            exact ⟨by first | rfl | (simp [errW_none, errW_some] <;> rfl) | (simp [*, errW_none, errW_some] <;> rfl), by repeat (first | (with_reducible first | exact HB.out | apply below_alloc | apply pw_below_drewN | apply below_drew1) | exact HB.out)⟩
                        · rw [if_neg c30] at H
                          have c30b0 : (t198.toList == a1.toList) = false := beq_eq_false_iff_ne.mpr c30
                          have c30b1 : (t198.toList != a1.toList) = true := bne_iff_ne.mpr c30
                          (first | rw [c30b0] | (simp only [i64_w, i32_w]; rw [c30b0]) | skip)
                          obtain rfl := Option.some.inj H
                          go_wp2_with (first | ((with_reducible refine gate_callee (f := 14) rfl ?_); refine goesL_ (some 70) rfl rfl Try.func14 (by kernel_rfl) rfl #[.string (t195 ++ a2)] rfl (by (try simp only [List.map_toArray, List.map_cons, List.map_nil]); first | done | rfl | (simp only [List.length_drop, List.length_take]; rfl)) ?_; (with_reducible refine (nibble_Unpack.calls kj11 (t195 ++ a2) t198 t199 true _ A28.out).mono ?_); rintro e w36 ⟨rfl, hb⟩; refine ⟨_, rfl, ?_⟩; have n0_ := Aside0.mk (below_step (by repeat (first | (with_reducible first | exact HB.out | apply below_alloc | apply pw_below_drewN | apply below_drew1) | exact HB.out)) hb); clear HB; have HB := n0_; clear n0_; (try clear hb); (try clear hb2); (try clear hk); (try clear hi)))
                          go_ret
                          exact ⟨by first | rfl | (simp [errW_none, errW_some] <;> rfl) | (simp [*, errW_none, errW_some] <;> rfl), by repeat (first | (with_reducible first | exact HB.out | apply below_alloc | apply pw_below_drewN | apply below_drew1) | exact HB.out)⟩
                      · replace c29 := Bool.eq_false_iff.mpr c29
                        subst c29
                        have H1 : (some false) = some r := by rw [if_neg (show ¬ (false = true) by decide)] at H; exact H
                        clear H
                        have H := H1
                        clear H1
                        obtain rfl := Option.some.inj H
                        go_wp2_with (first | ((with_reducible refine gate_callee (f := 14) rfl ?_); refine goesL_ (some 70) rfl rfl Try.func14 (by kernel_rfl) rfl #[.string (t195 ++ a2)] rfl (by (try simp only [List.map_toArray, List.map_cons, List.map_nil]); first | done | rfl | (simp only [List.length_drop, List.length_take]; rfl)) ?_; (with_reducible refine (nibble_Unpack.calls kj11 (t195 ++ a2) t198 t199 false _ A28.out).mono ?_); rintro e w37 ⟨rfl, hb⟩; refine ⟨_, rfl, ?_⟩; have n0_ := Aside0.mk (below_step (by repeat (first | (with_reducible first | exact HB.out | apply below_alloc | apply pw_below_drewN | apply below_drew1) | exact HB.out)) hb); clear HB; have HB := n0_; clear n0_; (try clear hb); (try clear hb2); (try clear hk); (try clear hi)))
                        go_ret
                        exact ⟨by first | rfl | (simp [errW_none, errW_some] <;> rfl) | (simp [*, errW_none, errW_some] <;> rfl), by repeat (first | (with_reducible first | exact HB.out | apply below_alloc | apply pw_below_drewN | apply below_drew1) | exact HB.out)⟩
                    · rw [if_neg c27] at H
                      exact absurd H (by simp)
                  · replace c26 := Bool.eq_false_iff.mpr c26
                    subst c26
                    have H1 : (umbellaw02_NibbleBack.j2 kj11 a2) = some r := by rw [if_neg (show ¬ (false = true) by decide)] at H; exact H
                    clear H
                    have H := H1
                    clear H1
                    have H' := Aside0.mk H
                    clear H
                    go_wp2
                    go_meet
                    case rel => exact ⟨_, H', ⟨by have := HJ3.out; have := HJ11.out; first | omega | exact Nat.le_refl _⟩, ⟨by repeat (first | (with_reducible first | exact HB.out | apply below_alloc | apply pw_below_drewN | apply below_drew1) | exact HB.out)⟩⟩
                case rest =>
                  clear HC23
                  try clear c1
                  try clear c2
                  try clear p2
                  try clear c3
                  try clear c4
                  try clear c5
                  try clear c5b0
                  try clear c5b1
                  try clear c6
                  try clear c6b0
                  try clear c6b1
                  try clear p6
                  try clear c7
                  try clear c11
                  try clear c12
                  try clear c13
                  try clear c14
                  try clear c15
                  try clear c16
                  try clear c16b0
                  try clear c16b1
                  try clear c17
                  try clear c18
                  try clear c20
                  try clear c20b0
                  try clear c20b1
                  try clear c20b2
                  try clear c22
                  try clear c26
                  try clear c27
                  try clear c27b0
                  try clear c27b1
                  try clear c27b2
                  try clear c29
                  try clear c30
                  try clear c30b0
                  try clear c30b1
                  try clear c31
                  try clear c31b0
                  try clear c31b1
                  try clear c32
                  try clear c32b0
                  try clear c32b1
                  try clear p2
                  try clear p6
                  obtain ⟨kq, HA, HJ22, HB⟩ := hcut
                  cases kq with
                  | zero => exact absurd HA.out (by simp [umbellaw02_NibbleBack.j2])
                  | succ kj22 =>
                    have H := HA.out
                    clear HA
                    simp only [umbellaw02_NibbleBack.j2] at H
                    replace H := Option.bind_eq_some_iff.mp H
                    obtain ⟨⟨t201, t202, t203⟩, A380, H⟩ := H
                    replace H : (if t203 = true then ((nibble_Pack.f kj22 t201).bind fun bt204 => (if bt204.2 = true then (if t202 ≥ 1 then (if t202 ≤ (a2.size : Int) then (if 0 ≤ t202 then (if bt204.1.toList = (a2.extract 0 (t202 : Int).toNat).toList then ((umbellaw02_wakes.f kj22).bind fun t206 => (some t206)) else (some false)) else (none)) else (some false)) else (some false)) else (some false))) else (if t201.toList = ([] : List UInt8) then (if t202 = 0 then ((umbellaw02_wakes.f kj22).bind fun t207 => (some t207)) else (some false)) else (some false))) = some r := H
                    have A38 := Aside0.mk A380
                    clear A380
                    by_cases c39 : t203 = true
                    · subst c39
                      have H1 : ((nibble_Pack.f kj22 t201).bind fun bt204 => (if bt204.2 = true then (if t202 ≥ 1 then (if t202 ≤ (a2.size : Int) then (if 0 ≤ t202 then (if bt204.1.toList = (a2.extract 0 (t202 : Int).toNat).toList then ((umbellaw02_wakes.f kj22).bind fun t206 => (some t206)) else (some false)) else (none)) else (some false)) else (some false)) else (some false))) = some r := by rw [if_pos rfl] at H; exact H
                      clear H
                      have H := H1
                      clear H1
                      replace H := Option.bind_eq_some_iff.mp H
                      obtain ⟨⟨t204, t205⟩, A400, H⟩ := H
                      replace H : (if t205 = true then (if t202 ≥ 1 then (if t202 ≤ (a2.size : Int) then (if 0 ≤ t202 then (if t204.toList = (a2.extract 0 (t202 : Int).toNat).toList then ((umbellaw02_wakes.f kj22).bind fun t206 => (some t206)) else (some false)) else (none)) else (some false)) else (some false)) else (some false)) = some r := H
                      have A40 := Aside0.mk A400
                      clear A400
                      by_cases c41 : t205 = true
                      · subst c41
                        have H1 : (if t202 ≥ 1 then (if t202 ≤ (a2.size : Int) then (if 0 ≤ t202 then (if t204.toList = (a2.extract 0 (t202 : Int).toNat).toList then ((umbellaw02_wakes.f kj22).bind fun t206 => (some t206)) else (some false)) else (none)) else (some false)) else (some false)) = some r := by rw [if_pos rfl] at H; exact H
                        clear H
                        have H := H1
                        clear H1
                        by_cases c42 : t202 ≥ 1
                        · rw [if_pos c42] at H
                          have c42b0 : decide (1 ≤ t202) = true := decide_eq_true c42
                          clear c42
                          by_cases c43 : t202 ≤ (a2.size : Int)
                          · rw [if_pos c43] at H
                            have c43b0 : decide (t202 ≤ (a2.size : Int)) = true := decide_eq_true c43
                            clear c43
                            by_cases c44 : 0 ≤ t202
                            · rw [if_pos c44] at H
                              have c44b0 := eq_true c44
                              have c44b1 : decide (0 ≤ t202) = true := decide_eq_true c44
                              clear c44
                              have c45b0 := eq_true (of_decide_eq_true (by first | (with_reducible assumption) | assumption) : t202 ≤ (a2.size : Int))
                              by_cases c46 : t204.toList = (a2.extract 0 (t202 : Int).toNat).toList
                              · rw [if_pos c46] at H
                                have c46b0 : (t204.toList == (a2.extract 0 (t202 : Int).toNat).toList) = true := beq_iff_eq.mpr c46
                                have c46b1 : (t204.toList != (a2.extract 0 (t202 : Int).toNat).toList) = false := bne_eq_false_iff_eq.mpr c46
                                clear c46
                                replace H := Option.bind_eq_some_iff.mp H
                                obtain ⟨t206, A470, H⟩ := H
                                replace H : (some t206) = some r := H
                                have A47 := Aside0.mk A470
                                clear A470
                                obtain rfl := Option.some.inj H
                                go_wp2_with (first | ((with_reducible refine gate_callee (f := 14) rfl ?_); refine goesL_ (some 99) rfl rfl Try.func14 (by kernel_rfl) rfl #[.string a2] rfl (by (try simp only [List.map_toArray, List.map_cons, List.map_nil]); first | done | rfl | (simp only [List.length_drop, List.length_take]; rfl)) ?_; (with_reducible refine (nibble_Unpack.calls kj22 a2 t201 t202 true _ A38.out).mono ?_); rintro e w48 ⟨rfl, hb⟩; refine ⟨_, rfl, ?_⟩; have n0_ := Aside0.mk (below_step (by repeat (first | (with_reducible first | exact HB.out | apply below_alloc | apply pw_below_drewN | apply below_drew1) | exact HB.out)) hb); clear HB; have HB := n0_; clear n0_; (try clear hb); (try clear hb2); (try clear hk); (try clear hi)) | ((with_reducible refine gate_callee (f := 13) rfl ?_); refine goesL_ (some 116) rfl rfl Try.func13 (by kernel_rfl) rfl #[.string t201] rfl (by (try simp only [List.map_toArray, List.map_cons, List.map_nil]); first | done | rfl | (simp only [List.length_drop, List.length_take]; rfl)) ?_; (with_reducible refine (nibble_Pack.calls kj22 t201 t204 true _ A40.out).mono ?_); rintro e w49 ⟨rfl, hb⟩; refine ⟨_, rfl, ?_⟩; have n0_ := Aside0.mk (below_step (by repeat (first | (with_reducible first | exact HB.out | apply below_alloc | apply pw_below_drewN | apply below_drew1) | exact HB.out)) hb); clear HB; have HB := n0_; clear n0_; (try clear hb); (try clear hb2); (try clear hk); (try clear hi)) | (go_at_call 11; (with_reducible refine (umbellaw02_wakes.calls kj22  t206 _ A47.out).mono ?_); rintro e w50 ⟨rfl, hb⟩; have n0_ := Aside0.mk (below_step (by repeat (first | (with_reducible first | exact HB.out | apply below_alloc | apply pw_below_drewN | apply below_drew1) | exact HB.out)) hb); clear HB; have HB := n0_; clear n0_; (try clear hb); (try clear hb2); (try clear hk); (try clear hi)))
                                go_ret
                                exact ⟨by first | rfl | (simp [errW_none, errW_some] <;> rfl) | (simp [*, errW_none, errW_some] <;> rfl), by repeat (first | (with_reducible first | exact HB.out | apply below_alloc | apply pw_below_drewN | apply below_drew1) | exact HB.out)⟩
                              · rw [if_neg c46] at H
                                have c46b0 : (t204.toList == (a2.extract 0 (t202 : Int).toNat).toList) = false := beq_eq_false_iff_ne.mpr c46
                                have c46b1 : (t204.toList != (a2.extract 0 (t202 : Int).toNat).toList) = true := bne_iff_ne.mpr c46
                                obtain rfl := Option.some.inj H
                                go_wp2_with (first | ((with_reducible refine gate_callee (f := 14) rfl ?_); refine goesL_ (some 99) rfl rfl Try.func14 (by kernel_rfl) rfl #[.string a2] rfl (by (try simp only [List.map_toArray, List.map_cons, List.map_nil]); first | done | rfl | (simp only [List.length_drop, List.length_take]; rfl)) ?_; (with_reducible refine (nibble_Unpack.calls kj22 a2 t201 t202 true _ A38.out).mono ?_); rintro e w51 ⟨rfl, hb⟩; refine ⟨_, rfl, ?_⟩; have n0_ := Aside0.mk (below_step (by repeat (first | (with_reducible first | exact HB.out | apply below_alloc | apply pw_below_drewN | apply below_drew1) | exact HB.out)) hb); clear HB; have HB := n0_; clear n0_; (try clear hb); (try clear hb2); (try clear hk); (try clear hi)) | ((with_reducible refine gate_callee (f := 13) rfl ?_); refine goesL_ (some 116) rfl rfl Try.func13 (by kernel_rfl) rfl #[.string t201] rfl (by (try simp only [List.map_toArray, List.map_cons, List.map_nil]); first | done | rfl | (simp only [List.length_drop, List.length_take]; rfl)) ?_; (with_reducible refine (nibble_Pack.calls kj22 t201 t204 true _ A40.out).mono ?_); rintro e w52 ⟨rfl, hb⟩; refine ⟨_, rfl, ?_⟩; have n0_ := Aside0.mk (below_step (by repeat (first | (with_reducible first | exact HB.out | apply below_alloc | apply pw_below_drewN | apply below_drew1) | exact HB.out)) hb); clear HB; have HB := n0_; clear n0_; (try clear hb); (try clear hb2); (try clear hk); (try clear hi)))
                                go_ret
                                exact ⟨by first | rfl | (simp [errW_none, errW_some] <;> rfl) | (simp [*, errW_none, errW_some] <;> rfl), by repeat (first | (with_reducible first | exact HB.out | apply below_alloc | apply pw_below_drewN | apply below_drew1) | exact HB.out)⟩
                            · rw [if_neg c44] at H
                              exact absurd H (by simp)
                          · rw [if_neg c43] at H
                            have c43b0 : decide (t202 ≤ (a2.size : Int)) = false := decide_eq_false c43
                            clear c43
                            obtain rfl := Option.some.inj H
                            go_wp2_with (first | ((with_reducible refine gate_callee (f := 14) rfl ?_); refine goesL_ (some 99) rfl rfl Try.func14 (by kernel_rfl) rfl #[.string a2] rfl (by (try simp only [List.map_toArray, List.map_cons, List.map_nil]); first | done | rfl | (simp only [List.length_drop, List.length_take]; rfl)) ?_; (with_reducible refine (nibble_Unpack.calls kj22 a2 t201 t202 true _ A38.out).mono ?_); rintro e w53 ⟨rfl, hb⟩; refine ⟨_, rfl, ?_⟩; have n0_ := Aside0.mk (below_step (by repeat (first | (with_reducible first | exact HB.out | apply below_alloc | apply pw_below_drewN | apply below_drew1) | exact HB.out)) hb); clear HB; have HB := n0_; clear n0_; (try clear hb); (try clear hb2); (try clear hk); (try clear hi)) | ((with_reducible refine gate_callee (f := 13) rfl ?_); refine goesL_ (some 116) rfl rfl Try.func13 (by kernel_rfl) rfl #[.string t201] rfl (by (try simp only [List.map_toArray, List.map_cons, List.map_nil]); first | done | rfl | (simp only [List.length_drop, List.length_take]; rfl)) ?_; (with_reducible refine (nibble_Pack.calls kj22 t201 t204 true _ A40.out).mono ?_); rintro e w54 ⟨rfl, hb⟩; refine ⟨_, rfl, ?_⟩; have n0_ := Aside0.mk (below_step (by repeat (first | (with_reducible first | exact HB.out | apply below_alloc | apply pw_below_drewN | apply below_drew1) | exact HB.out)) hb); clear HB; have HB := n0_; clear n0_; (try clear hb); (try clear hb2); (try clear hk); (try clear hi)))
                            go_ret
                            exact ⟨by first | rfl | (simp [errW_none, errW_some] <;> rfl) | (simp [*, errW_none, errW_some] <;> rfl), by repeat (first | (with_reducible first | exact HB.out | apply below_alloc | apply pw_below_drewN | apply below_drew1) | exact HB.out)⟩
                        · rw [if_neg c42] at H
                          have c42b0 : decide (1 ≤ t202) = false := decide_eq_false c42
                          clear c42
                          obtain rfl := Option.some.inj H
                          go_wp2_with (first | ((with_reducible refine gate_callee (f := 14) rfl ?_); refine goesL_ (some 99) rfl rfl Try.func14 (by kernel_rfl) rfl #[.string a2] rfl (by (try simp only [List.map_toArray, List.map_cons, List.map_nil]); first | done | rfl | (simp only [List.length_drop, List.length_take]; rfl)) ?_; (with_reducible refine (nibble_Unpack.calls kj22 a2 t201 t202 true _ A38.out).mono ?_); rintro e w55 ⟨rfl, hb⟩; refine ⟨_, rfl, ?_⟩; have n0_ := Aside0.mk (below_step (by repeat (first | (with_reducible first | exact HB.out | apply below_alloc | apply pw_below_drewN | apply below_drew1) | exact HB.out)) hb); clear HB; have HB := n0_; clear n0_; (try clear hb); (try clear hb2); (try clear hk); (try clear hi)) | ((with_reducible refine gate_callee (f := 13) rfl ?_); refine goesL_ (some 116) rfl rfl Try.func13 (by kernel_rfl) rfl #[.string t201] rfl (by (try simp only [List.map_toArray, List.map_cons, List.map_nil]); first | done | rfl | (simp only [List.length_drop, List.length_take]; rfl)) ?_; (with_reducible refine (nibble_Pack.calls kj22 t201 t204 true _ A40.out).mono ?_); rintro e w56 ⟨rfl, hb⟩; refine ⟨_, rfl, ?_⟩; have n0_ := Aside0.mk (below_step (by repeat (first | (with_reducible first | exact HB.out | apply below_alloc | apply pw_below_drewN | apply below_drew1) | exact HB.out)) hb); clear HB; have HB := n0_; clear n0_; (try clear hb); (try clear hb2); (try clear hk); (try clear hi)))
                          go_ret
                          exact ⟨by first | rfl | (simp [errW_none, errW_some] <;> rfl) | (simp [*, errW_none, errW_some] <;> rfl), by repeat (first | (with_reducible first | exact HB.out | apply below_alloc | apply pw_below_drewN | apply below_drew1) | exact HB.out)⟩
                      · replace c41 := Bool.eq_false_iff.mpr c41
                        subst c41
                        have H1 : (some false) = some r := by rw [if_neg (show ¬ (false = true) by decide)] at H; exact H
                        clear H
                        have H := H1
                        clear H1
                        obtain rfl := Option.some.inj H
                        go_wp2_with (first | ((with_reducible refine gate_callee (f := 14) rfl ?_); refine goesL_ (some 99) rfl rfl Try.func14 (by kernel_rfl) rfl #[.string a2] rfl (by (try simp only [List.map_toArray, List.map_cons, List.map_nil]); first | done | rfl | (simp only [List.length_drop, List.length_take]; rfl)) ?_; (with_reducible refine (nibble_Unpack.calls kj22 a2 t201 t202 true _ A38.out).mono ?_); rintro e w57 ⟨rfl, hb⟩; refine ⟨_, rfl, ?_⟩; have n0_ := Aside0.mk (below_step (by repeat (first | (with_reducible first | exact HB.out | apply below_alloc | apply pw_below_drewN | apply below_drew1) | exact HB.out)) hb); clear HB; have HB := n0_; clear n0_; (try clear hb); (try clear hb2); (try clear hk); (try clear hi)) | ((with_reducible refine gate_callee (f := 13) rfl ?_); refine goesL_ (some 116) rfl rfl Try.func13 (by kernel_rfl) rfl #[.string t201] rfl (by (try simp only [List.map_toArray, List.map_cons, List.map_nil]); first | done | rfl | (simp only [List.length_drop, List.length_take]; rfl)) ?_; (with_reducible refine (nibble_Pack.calls kj22 t201 t204 false _ A40.out).mono ?_); rintro e w58 ⟨rfl, hb⟩; refine ⟨_, rfl, ?_⟩; have n0_ := Aside0.mk (below_step (by repeat (first | (with_reducible first | exact HB.out | apply below_alloc | apply pw_below_drewN | apply below_drew1) | exact HB.out)) hb); clear HB; have HB := n0_; clear n0_; (try clear hb); (try clear hb2); (try clear hk); (try clear hi)))
                        go_ret
                        exact ⟨by first | rfl | (simp [errW_none, errW_some] <;> rfl) | (simp [*, errW_none, errW_some] <;> rfl), by repeat (first | (with_reducible first | exact HB.out | apply below_alloc | apply pw_below_drewN | apply below_drew1) | exact HB.out)⟩
                    · replace c39 := Bool.eq_false_iff.mpr c39
                      subst c39
                      have H1 : (if t201.toList = ([] : List UInt8) then (if t202 = 0 then ((umbellaw02_wakes.f kj22).bind fun t207 => (some t207)) else (some false)) else (some false)) = some r := by rw [if_neg (show ¬ (false = true) by decide)] at H; exact H
                      clear H
                      have H := H1
                      clear H1
                      by_cases c59 : t201.toList = ([] : List UInt8)
                      · rw [if_pos c59] at H
                        have c59b0 : (t201.toList == ([] : List UInt8)) = true := beq_iff_eq.mpr c59
                        have c59b1 : (t201.toList != ([] : List UInt8)) = false := bne_eq_false_iff_eq.mpr c59
                        clear c59
                        by_cases c60 : t202 = 0
                        · rw [if_pos c60] at H
                          have c60b0 : (t202 == 0) = true := beq_iff_eq.mpr c60
                          have c60b1 : (t202 != 0) = false := bne_eq_false_iff_eq.mpr c60
                          clear c60
                          replace H := Option.bind_eq_some_iff.mp H
                          obtain ⟨t207, A610, H⟩ := H
                          replace H : (some t207) = some r := H
                          have A61 := Aside0.mk A610
                          clear A610
                          obtain rfl := Option.some.inj H
                          go_wp2_with (first | ((with_reducible refine gate_callee (f := 14) rfl ?_); refine goesL_ (some 99) rfl rfl Try.func14 (by kernel_rfl) rfl #[.string a2] rfl (by (try simp only [List.map_toArray, List.map_cons, List.map_nil]); first | done | rfl | (simp only [List.length_drop, List.length_take]; rfl)) ?_; (with_reducible refine (nibble_Unpack.calls kj22 a2 t201 t202 false _ A38.out).mono ?_); rintro e w62 ⟨rfl, hb⟩; refine ⟨_, rfl, ?_⟩; have n0_ := Aside0.mk (below_step (by repeat (first | (with_reducible first | exact HB.out | apply below_alloc | apply pw_below_drewN | apply below_drew1) | exact HB.out)) hb); clear HB; have HB := n0_; clear n0_; (try clear hb); (try clear hb2); (try clear hk); (try clear hi)) | (go_at_call 11; (with_reducible refine (umbellaw02_wakes.calls kj22  t207 _ A61.out).mono ?_); rintro e w63 ⟨rfl, hb⟩; have n0_ := Aside0.mk (below_step (by repeat (first | (with_reducible first | exact HB.out | apply below_alloc | apply pw_below_drewN | apply below_drew1) | exact HB.out)) hb); clear HB; have HB := n0_; clear n0_; (try clear hb); (try clear hb2); (try clear hk); (try clear hi)))
                          go_ret
                          exact ⟨by first | rfl | (simp [errW_none, errW_some] <;> rfl) | (simp [*, errW_none, errW_some] <;> rfl), by repeat (first | (with_reducible first | exact HB.out | apply below_alloc | apply pw_below_drewN | apply below_drew1) | exact HB.out)⟩
                        · rw [if_neg c60] at H
                          have c60b0 : (t202 == 0) = false := beq_eq_false_iff_ne.mpr c60
                          have c60b1 : (t202 != 0) = true := bne_iff_ne.mpr c60
                          obtain rfl := Option.some.inj H
                          go_wp2_with (first | ((with_reducible refine gate_callee (f := 14) rfl ?_); refine goesL_ (some 99) rfl rfl Try.func14 (by kernel_rfl) rfl #[.string a2] rfl (by (try simp only [List.map_toArray, List.map_cons, List.map_nil]); first | done | rfl | (simp only [List.length_drop, List.length_take]; rfl)) ?_; (with_reducible refine (nibble_Unpack.calls kj22 a2 t201 t202 false _ A38.out).mono ?_); rintro e w64 ⟨rfl, hb⟩; refine ⟨_, rfl, ?_⟩; have n0_ := Aside0.mk (below_step (by repeat (first | (with_reducible first | exact HB.out | apply below_alloc | apply pw_below_drewN | apply below_drew1) | exact HB.out)) hb); clear HB; have HB := n0_; clear n0_; (try clear hb); (try clear hb2); (try clear hk); (try clear hi)))
                          go_ret
                          exact ⟨by first | rfl | (simp [errW_none, errW_some] <;> rfl) | (simp [*, errW_none, errW_some] <;> rfl), by repeat (first | (with_reducible first | exact HB.out | apply below_alloc | apply pw_below_drewN | apply below_drew1) | exact HB.out)⟩
                      · rw [if_neg c59] at H
                        have c59b0 : (t201.toList == ([] : List UInt8)) = false := beq_eq_false_iff_ne.mpr c59
                        have c59b1 : (t201.toList != ([] : List UInt8)) = true := bne_iff_ne.mpr c59
                        obtain rfl := Option.some.inj H
                        go_wp2_with (first | ((with_reducible refine gate_callee (f := 14) rfl ?_); refine goesL_ (some 99) rfl rfl Try.func14 (by kernel_rfl) rfl #[.string a2] rfl (by (try simp only [List.map_toArray, List.map_cons, List.map_nil]); first | done | rfl | (simp only [List.length_drop, List.length_take]; rfl)) ?_; (with_reducible refine (nibble_Unpack.calls kj22 a2 t201 t202 false _ A38.out).mono ?_); rintro e w65 ⟨rfl, hb⟩; refine ⟨_, rfl, ?_⟩; have n0_ := Aside0.mk (below_step (by repeat (first | (with_reducible first | exact HB.out | apply below_alloc | apply pw_below_drewN | apply below_drew1) | exact HB.out)) hb); clear HB; have HB := n0_; clear n0_; (try clear hb); (try clear hb2); (try clear hk); (try clear hi)))
                        go_ret
                        exact ⟨by first | rfl | (simp [errW_none, errW_some] <;> rfl) | (simp [*, errW_none, errW_some] <;> rfl), by repeat (first | (with_reducible first | exact HB.out | apply below_alloc | apply pw_below_drewN | apply below_drew1) | exact HB.out)⟩

/-- THE ONE PURE STATEMENT of umbellaw02_NibbleBack: yours. -/
def umbellaw02_NibbleBack.Pure : Prop := ∀ (a0 : ByteArray) (a1 : ByteArray) (a2 : ByteArray), a0.size ≤ 140737488351232 → a1.size ≤ 140737488351232 → a2.size ≤ 140737488351232 → ∃ k, umbellaw02_NibbleBack.f k a0 a1 a2 = some true
theorem umbellaw02_NibbleBack.walk (P : umbellaw02_NibbleBack.Pure) (a0 : ByteArray) (a1 : ByteArray) (a2 : ByteArray) (w : World) (w0 : a0.size ≤ 140737488351232) (w1 : a1.size ≤ 140737488351232) (w2 : a2.size ≤ 140737488351232) :
    Calls Try.prog 4 #[.string a0, .string a1, .string a2] w fun e w' => e = .returned (.bool true) ∧ Below w.heap.size w w' := by
  obtain ⟨k, h⟩ := P a0 a1 a2 w0 w1 w2
  refine (umbellaw02_NibbleBack.calls k a0 a1 a2 true w h).mono ?_
  rintro e w' ⟨rfl, hd⟩
  exact ⟨rfl, hd⟩

-- NOT PRINTED: function 5 (umbellaw02_NibbleCommon)

end Go.Proofs.Ytbgojedhciimaaa.PNib
