-- Written by a program of this session for this seat. Not trusted: Lean checks it.
import Derived.Test.YtbphehijikdkjaaDoorPDglx0
import Derived.Test.YtbphehijikdkjaaDoorPDglx1
namespace Go.Proofs.YtbphehijikdkjaaDoor.PDgl
open Go.RowKit Go.Proofs.YtbphehijikdkjaaDoorW.PrintWords Go.Proofs.YtbphehijikdkjaaDoorW.PrintLast Go.Proofs.YtbphehijikdkjaaDoorW.PrintMore
attribute [local go_sem] max2_int min2_int max_two min_two max_three min_three max_four min_four   -- for this text's walks alone
set_option linter.unusedVariables false
set_option linter.unusedSimpArgs false
open Go.Proofs.YtbphehijikdkjaaDoor.HW Go.Proofs.YtbphehijikdkjaaDoor.DgsB

/-! ### umbellaw04_DigestHexes: function 6 -/
mutual
def umbellaw04_DigestHexes.l0 : Nat → ByteArray → ByteArray → Int → Option (Bool)
  | 0, _, _, _ => none
  | k + 1, x0, x3, x4 => if x4 < (x3.size : Int) then (if 0 ≤ x4 then (if (bt x3 x4) ≥ 48 then (umbellaw04_DigestHexes.j1 k x0 x3 x4 (decide ((bt x3 x4) ≤ 57))) else (umbellaw04_DigestHexes.j1 k x0 x3 x4 false)) else (none)) else ((umbellaw04_wakes.f).bind fun t109 => (some t109))
def umbellaw04_DigestHexes.j1 : Nat → ByteArray → ByteArray → Int → Bool → Option (Bool)
  | 0, _, _, _, _ => none
  | k + 1, x0, x3, x4, x24 => if x24 = true then (if 0 ≤ x4 then (if x4 < (x3.size : Int) then (if 0 ≤ (wrap64 (Int.tdiv x4 2)) then (if (wrap64 (Int.tdiv x4 2)) < (x0.size : Int) then (if 0 ≤ (IntKind.u64.wrap (wrap64 (4 - (wrap64 (4 * (Int.tmod x4 2)))))) then (if (((bt x3 x4) - 48) % 256) = (Go.bits .and .u8 (shr .u8 (bt x0 (wrap64 (Int.tdiv x4 2))) (IntKind.u64.wrap (wrap64 (4 - (wrap64 (4 * (Int.tmod x4 2))))))) 15) then (umbellaw04_DigestHexes.l0 k x0 x3 (wrap64 (x4 + 1))) else (some false)) else (none)) else (none)) else (none)) else (none)) else (none)) else (if 0 ≤ x4 then (if x4 < (x3.size : Int) then (if (bt x3 x4) ≥ 97 then (umbellaw04_DigestHexes.j2 k x0 x3 x4 (decide ((bt x3 x4) ≤ 102))) else (umbellaw04_DigestHexes.j2 k x0 x3 x4 false)) else (none)) else (none))
def umbellaw04_DigestHexes.j2 : Nat → ByteArray → ByteArray → Int → Bool → Option (Bool)
  | 0, _, _, _, _ => none
  | k + 1, x0, x3, x4, x39 => if x39 = true then (if 0 ≤ x4 then (if x4 < (x3.size : Int) then (if 0 ≤ (wrap64 (Int.tdiv x4 2)) then (if (wrap64 (Int.tdiv x4 2)) < (x0.size : Int) then (if 0 ≤ (IntKind.u64.wrap (wrap64 (4 - (wrap64 (4 * (Int.tmod x4 2)))))) then (if ((((bt x3 x4) - 97) + 10) % 256) = (Go.bits .and .u8 (shr .u8 (bt x0 (wrap64 (Int.tdiv x4 2))) (IntKind.u64.wrap (wrap64 (4 - (wrap64 (4 * (Int.tmod x4 2))))))) 15) then (umbellaw04_DigestHexes.l0 k x0 x3 (wrap64 (x4 + 1))) else (some false)) else (none)) else (none)) else (none)) else (none)) else (none)) else (some false)
end
def umbellaw04_DigestHexes.f (k : Nat) (a0 : ByteArray) : Option (Bool) := if (a0.size : Int) > 500 then ((umbellaw04_wakes.f).bind fun t107 => (some t107)) else ((digest_Hex.f a0).bind fun t108 => (if (t108.size : Int) = (wrap64 (2 * (a0.size : Int))) then (umbellaw04_DigestHexes.l0 k a0 t108 0) else (some false)))
theorem umbellaw04_DigestHexes.mono_l : ∀ k, (∀ y0 y1 y2, LeO (umbellaw04_DigestHexes.l0 k y0 y1 y2) (umbellaw04_DigestHexes.l0 (k + 1) y0 y1 y2)) ∧ (∀ y0 y1 y2 y3, LeO (umbellaw04_DigestHexes.j1 k y0 y1 y2 y3) (umbellaw04_DigestHexes.j1 (k + 1) y0 y1 y2 y3)) ∧ (∀ y0 y1 y2 y3, LeO (umbellaw04_DigestHexes.j2 k y0 y1 y2 y3) (umbellaw04_DigestHexes.j2 (k + 1) y0 y1 y2 y3))
  | 0 => ⟨fun _ _ _ r h => by simp [umbellaw04_DigestHexes.l0] at h, fun _ _ _ _ r h => by simp [umbellaw04_DigestHexes.j1] at h, fun _ _ _ _ r h => by simp [umbellaw04_DigestHexes.j2] at h⟩
  | k + 1 => by
    obtain ⟨ih0, ih1, ih2⟩ := umbellaw04_DigestHexes.mono_l k
    refine ⟨?_, ?_, ?_⟩
    · intro y0 y1 y2
      unfold umbellaw04_DigestHexes.l0
      repeat' first
      | (with_reducible exact ih0 _ _ _)
      | (with_reducible exact ih1 _ _ _ _)
      | (with_reducible exact ih2 _ _ _ _)
      | (with_reducible exact LeO.refl _)
      | (with_reducible exact LeO.none _)
      | (with_reducible refine LeO.ite ?_ ?_)
      | (with_reducible refine LeO.bind ?_ (fun _ => ?_))
      | exact ih0 _ _ _
      | exact ih1 _ _ _ _
      | exact ih2 _ _ _ _
      | exact LeO.none _
      | refine LeO.ite ?_ ?_
      | refine LeO.bind ?_ (fun _ => ?_)
    · intro y0 y1 y2 y3
      unfold umbellaw04_DigestHexes.j1
      repeat' first
      | (with_reducible exact ih0 _ _ _)
      | (with_reducible exact ih1 _ _ _ _)
      | (with_reducible exact ih2 _ _ _ _)
      | (with_reducible exact LeO.refl _)
      | (with_reducible exact LeO.none _)
      | (with_reducible refine LeO.ite ?_ ?_)
      | (with_reducible refine LeO.bind ?_ (fun _ => ?_))
      | exact ih0 _ _ _
      | exact ih1 _ _ _ _
      | exact ih2 _ _ _ _
      | exact LeO.none _
      | refine LeO.ite ?_ ?_
      | refine LeO.bind ?_ (fun _ => ?_)
    · intro y0 y1 y2 y3
      unfold umbellaw04_DigestHexes.j2
      repeat' first
      | (with_reducible exact ih0 _ _ _)
      | (with_reducible exact ih1 _ _ _ _)
      | (with_reducible exact ih2 _ _ _ _)
      | (with_reducible exact LeO.refl _)
      | (with_reducible exact LeO.none _)
      | (with_reducible refine LeO.ite ?_ ?_)
      | (with_reducible refine LeO.bind ?_ (fun _ => ?_))
      | exact ih0 _ _ _
      | exact ih1 _ _ _ _
      | exact ih2 _ _ _ _
      | exact LeO.none _
      | refine LeO.ite ?_ ?_
      | refine LeO.bind ?_ (fun _ => ?_)
theorem umbellaw04_DigestHexes.mono : ∀ a0 k, LeO (umbellaw04_DigestHexes.f k a0) (umbellaw04_DigestHexes.f (k + 1) a0) := by
  intro a0 k
  obtain ⟨ih0, ih1, ih2⟩ := umbellaw04_DigestHexes.mono_l k
  unfold umbellaw04_DigestHexes.f
  repeat' first
      | (with_reducible exact ih0 _ _ _)
      | (with_reducible exact ih1 _ _ _ _)
      | (with_reducible exact ih2 _ _ _ _)
      | (with_reducible exact LeO.refl _)
      | (with_reducible exact LeO.none _)
      | (with_reducible refine LeO.ite ?_ ?_)
      | (with_reducible refine LeO.bind ?_ (fun _ => ?_))
      | exact ih0 _ _ _
      | exact ih1 _ _ _ _
      | exact ih2 _ _ _ _
      | exact LeO.none _
      | refine LeO.ite ?_ ?_
      | refine LeO.bind ?_ (fun _ => ?_)
set_option maxHeartbeats 8000000 in
set_option maxRecDepth 100000 in
theorem umbellaw04_DigestHexes.calls (k : Nat) (a0 : ByteArray) (r : Bool) (w : World) (hG : Glob w) (h : umbellaw04_DigestHexes.f k a0 = some r) :
    Calls Tryd.prog 6 #[.string a0] w fun e w' => e = .returned (.bool r) ∧ Below w.heap.size w w' := by
  have HG := Aside0.mk hG
  clear hG
  have HB := Aside0.mk (Below.refl w.heap.size w)
  have H : (if (a0.size : Int) > 500 then ((umbellaw04_wakes.f).bind fun t107 => (some t107)) else ((digest_Hex.f a0).bind fun t108 => (if (t108.size : Int) = (wrap64 (2 * (a0.size : Int))) then (umbellaw04_DigestHexes.l0 k a0 t108 0) else (some false)))) = some r := h
  clear h
  by_cases c2 : (a0.size : Int) > 500
  · rw [if_pos c2] at H
    have c2b0 : decide (500 < (a0.size : Int)) = true := decide_eq_true c2
    have c2b1 : decide (500 < a0.size) = true := decide_eq_true (by omega)
    clear c2
    replace H := Option.bind_eq_some_iff.mp H
    obtain ⟨t107, A30, H⟩ := H
    replace H : (some t107) = some r := H
    have A3 := Aside0.mk A30
    clear A30
    obtain rfl := Option.some.inj H
    go_enter Tryd.func6, Tryd.ntmps6
    go_wp2_with (first | ((with_reducible refine gate_callee (f := 10) rfl ?_); refine goesL_ (some 9) rfl rfl Tryd.func10 (by kernel_rfl) rfl #[] rfl (by (try simp only [List.map_toArray, List.map_cons, List.map_nil]); first | done | rfl | (simp only [List.length_drop, List.length_take]; rfl)) ?_; (with_reducible refine (umbellaw04_wakes.calls  t107 _ ?side1 A3.out).mono ?_); (case side1 => exact Glob.below HG.out (by repeat (first | (with_reducible first | exact HB.out | apply below_alloc | apply pw_below_drewN | apply below_drew1) | exact HB.out))); rintro e w4 ⟨rfl, hb⟩; refine ⟨_, rfl, ?_⟩; have n0_ := Aside0.mk (below_step (by repeat (first | (with_reducible first | exact HB.out | apply below_alloc | apply pw_below_drewN | apply below_drew1) | exact HB.out)) hb); clear HB; have HB := n0_; clear n0_; (try clear hb); (try clear hb2); (try clear hk); (try clear hi)))
    go_ret
    exact ⟨by first | rfl | (simp [errW_none, errW_some] <;> rfl) | (simp [*, errW_none, errW_some] <;> rfl), by repeat (first | (with_reducible first | exact HB.out | apply below_alloc | apply pw_below_drewN | apply below_drew1) | exact HB.out)⟩
  · rw [if_neg c2] at H
    have c2b0 : decide (500 < (a0.size : Int)) = false := decide_eq_false c2
    have c2b1 : decide (500 < a0.size) = false := decide_eq_false (by omega)
    clear c2
    replace H := Option.bind_eq_some_iff.mp H
    obtain ⟨t108, A50, H⟩ := H
    replace H : (if (t108.size : Int) = (wrap64 (2 * (a0.size : Int))) then (umbellaw04_DigestHexes.l0 k a0 t108 0) else (some false)) = some r := H
    have A5 := Aside0.mk A50
    clear A50
    by_cases c6 : (t108.size : Int) = (wrap64 (2 * (a0.size : Int)))
    · rw [if_pos c6] at H
      have c6b0 : ((t108.size : Int) == (wrap64 (2 * (a0.size : Int)))) = true := beq_iff_eq.mpr c6
      have c6b1 : ((t108.size : Int) != (wrap64 (2 * (a0.size : Int)))) = false := bne_eq_false_iff_eq.mpr c6
      clear c6
      have H' := Aside0.mk H
      clear H
      go_enter Tryd.func6, Tryd.ntmps6
      go_wp2_with (first | ((with_reducible refine gate_callee (f := 13) rfl ?_); refine goesL_ (some 11) rfl rfl Tryd.func13 (by kernel_rfl) rfl #[.string a0] rfl (by (try simp only [List.map_toArray, List.map_cons, List.map_nil]); first | done | rfl | (simp only [List.length_drop, List.length_take]; rfl)) ?_; (with_reducible refine (digest_Hex.calls a0 t108 _ A5.out).mono ?_); rintro e w7 ⟨rfl, hb⟩; refine ⟨_, rfl, ?_⟩; have n0_ := Aside0.mk (below_step (by repeat (first | (with_reducible first | exact HB.out | apply below_alloc | apply pw_below_drewN | apply below_drew1) | exact HB.out)) hb); clear HB; have HB := n0_; clear n0_; (try clear hb); (try clear hb2); (try clear hk); (try clear hi)))
      go_loopg [4] k (fun kq v4 w' => ∃ (x4_1 : Int), v4 = .int .i64 x4_1 ∧ Aside0 (umbellaw04_DigestHexes.l0 kq a0 t108 x4_1 = some r) ∧ Aside0 (kq ≤ k) ∧ Aside0 (Below w.heap.size w w'))
      case atStart => exact ⟨(0), (by first | rfl | (simp; done) | (simp [*]; done)), H', ⟨Nat.le_refl _⟩, ⟨by repeat (first | (with_reducible first | exact HB.out | apply below_alloc | apply pw_below_drewN | apply below_drew1) | exact HB.out)⟩⟩
      case round =>
        clear H'
        try clear c1
        try clear c2
        try clear c2b0
        try clear c2b1
        try clear p2
        try clear c6
        try clear c6b0
        try clear c6b1
        try clear p6
        obtain ⟨x4_1, rfl, HA, HK1, HB⟩ := hrel
        cases gk with
        | zero => exact absurd HA.out (by simp [umbellaw04_DigestHexes.l0])
        | succ k1 =>
          have H := HA.out
          clear HA
          simp only [umbellaw04_DigestHexes.l0] at H
          by_cases c8 : x4_1 < (t108.size : Int)
          · rw [if_pos c8] at H
            have c8b0 : decide (x4_1 < (t108.size : Int)) = true := decide_eq_true c8
            clear c8
            have HC9 := Aside0.mk H
            clear H
            go_upto_region 11 with (fail)
            go_cut [24] (fun v24 wc => ∃ (kq : Nat) (x24_8 : Bool), v24 = .bool x24_8 ∧ Aside0 (umbellaw04_DigestHexes.j1 kq a0 t108 x4_1 x24_8 = some r) ∧ Aside0 (kq ≤ k1) ∧ Aside0 (Below w.heap.size w wc))
            case first =>
              have H := HC9.out
              clear HC9
              by_cases c10 : 0 ≤ x4_1
              · rw [if_pos c10] at H
                have c10b0 : decide (0 ≤ x4_1) = true := decide_eq_true c10
                clear c10
                (first | rw [c10b0] | (simp only [i64_w, i32_w]; rw [c10b0]) | skip)
                by_cases c12 : (bt t108 x4_1) ≥ 48
                · rw [if_pos c12] at H
                  have c12b0 : decide (48 ≤ (bt t108 x4_1)) = true := decide_eq_true c12
                  clear c12
                  have H' := Aside0.mk H
                  clear H
                  have p11 : 0 ≤ (x4_1 : Int) := of_decide_eq_true (by first | (with_reducible assumption) | assumption)
                  have q11 : x4_1 < (t108.size : Int) := of_decide_eq_true (by first | (with_reducible assumption) | assumption)
                  have hx11 := bt_at t108 x4_1
                  replace p11 := eq_true p11
                  replace q11 := eq_true q11
                  have p13 : 0 ≤ (x4_1 : Int) := of_decide_eq_true (by first | (with_reducible assumption) | assumption)
                  have q13 : x4_1 < (t108.size : Int) := of_decide_eq_true (by first | (with_reducible assumption) | assumption)
                  have hx13 := bt_at t108 x4_1
                  replace p13 := eq_true p13
                  replace q13 := eq_true q13
                  go_wp2
                  go_meet
                  case rel => exact ⟨_, (decide ((bt t108 x4_1) ≤ 57)), (by first | rfl | (simp; done) | (simp [*]; done)), H', ⟨by have := HK1.out; first | omega | exact Nat.le_refl _⟩, ⟨by repeat (first | (with_reducible first | exact HB.out | apply below_alloc | apply pw_below_drewN | apply below_drew1) | exact HB.out)⟩⟩
                · rw [if_neg c12] at H
                  have c12b0 : decide (48 ≤ (bt t108 x4_1)) = false := decide_eq_false c12
                  clear c12
                  have H' := Aside0.mk H
                  clear H
                  have p11 : 0 ≤ (x4_1 : Int) := of_decide_eq_true (by first | (with_reducible assumption) | assumption)
                  have q11 : x4_1 < (t108.size : Int) := of_decide_eq_true (by first | (with_reducible assumption) | assumption)
                  have hx11 := bt_at t108 x4_1
                  replace p11 := eq_true p11
                  replace q11 := eq_true q11
                  go_wp2
                  go_meet
                  case rel => exact ⟨_, (false), (by first | rfl | (simp; done) | (simp [*]; done)), H', ⟨by have := HK1.out; first | omega | exact Nat.le_refl _⟩, ⟨by repeat (first | (with_reducible first | exact HB.out | apply below_alloc | apply pw_below_drewN | apply below_drew1) | exact HB.out)⟩⟩
              · rw [if_neg c10] at H
                exact absurd H (by simp)
            case rest =>
              clear HC9
              try clear c1
              try clear p1
              try clear q1
              try clear hx1
              try clear c2
              try clear c2b0
              try clear c2b1
              try clear p2
              try clear c6
              try clear c6b0
              try clear c6b1
              try clear p6
              try clear c8
              try clear c8b0
              try clear c10
              try clear c10b0
              try clear p11
              try clear q11
              try clear hx11
              try clear c12
              try clear c12b0
              try clear c13
              try clear p13
              try clear q13
              try clear hx13
              try clear p11
              try clear p13
              try clear p2
              try clear p6
              try clear q11
              try clear q13
              obtain ⟨kq, x24_8, rfl, HA, HJ8, HB⟩ := hcut
              cases kq with
              | zero => exact absurd HA.out (by simp [umbellaw04_DigestHexes.j1])
              | succ kj8 =>
                have H := HA.out
                clear HA
                simp only [umbellaw04_DigestHexes.j1] at H
                by_cases c14 : x24_8 = true
                · subst c14
                  have H1 : (if 0 ≤ x4_1 then (if x4_1 < (t108.size : Int) then (if 0 ≤ (wrap64 (Int.tdiv x4_1 2)) then (if (wrap64 (Int.tdiv x4_1 2)) < (a0.size : Int) then (if 0 ≤ (IntKind.u64.wrap (wrap64 (4 - (wrap64 (4 * (Int.tmod x4_1 2)))))) then (if (((bt t108 x4_1) - 48) % 256) = (Go.bits .and .u8 (shr .u8 (bt a0 (wrap64 (Int.tdiv x4_1 2))) (IntKind.u64.wrap (wrap64 (4 - (wrap64 (4 * (Int.tmod x4_1 2))))))) 15) then (umbellaw04_DigestHexes.l0 kj8 a0 t108 (wrap64 (x4_1 + 1))) else (some false)) else (none)) else (none)) else (none)) else (none)) else (none)) = some r := by rw [if_pos rfl] at H; exact H
                  clear H
                  have H := H1
                  clear H1
                  by_cases c15 : 0 ≤ x4_1
                  · rw [if_pos c15] at H
                    have c15b0 : decide (0 ≤ x4_1) = true := decide_eq_true c15
                    clear c15
                    by_cases c16 : x4_1 < (t108.size : Int)
                    · rw [if_pos c16] at H
                      have c16b0 : decide (x4_1 < (t108.size : Int)) = true := decide_eq_true c16
                      clear c16
                      obtain ⟨ji18, hji18⟩ : ∃ j_ : Int, (wrap64 (Int.tdiv x4_1 2)) = j_ := ⟨_, rfl⟩
                      replace H : (if 0 ≤ (ji18) then (if (ji18) < (a0.size : Int) then (if 0 ≤ (IntKind.u64.wrap (wrap64 (4 - (wrap64 (4 * (Int.tmod x4_1 2)))))) then (if (((bt t108 x4_1) - 48) % 256) = (Go.bits .and .u8 (shr .u8 (bt a0 (ji18)) (IntKind.u64.wrap (wrap64 (4 - (wrap64 (4 * (Int.tmod x4_1 2))))))) 15) then (umbellaw04_DigestHexes.l0 kj8 a0 t108 (wrap64 (x4_1 + 1))) else (some false)) else (none)) else (none)) else (none)) = some r := by first | (rw [hji18] at H; exact H) | (simp only [hji18] at H ⊢; exact H)
                      have hji18w : (IntKind.i64.wrap (Int.tdiv x4_1 2)) = ji18 := (i64_w _).trans hji18
                      by_cases c19 : 0 ≤ (ji18)
                      · rw [if_pos c19] at H
                        have c19b0 : decide (0 ≤ (ji18)) = true := decide_eq_true c19
                        clear c19
                        by_cases c20 : (ji18) < (a0.size : Int)
                        · rw [if_pos c20] at H
                          have c20b0 : decide ((ji18) < (a0.size : Int)) = true := decide_eq_true c20
                          clear c20
                          obtain ⟨ji22, hji22⟩ : ∃ j_ : Int, (IntKind.u64.wrap (wrap64 (4 - (wrap64 (4 * (Int.tmod x4_1 2)))))) = j_ := ⟨_, rfl⟩
                          replace H : (if 0 ≤ (ji22) then (if (((bt t108 x4_1) - 48) % 256) = (Go.bits .and .u8 (shr .u8 (bt a0 (ji18)) (ji22)) 15) then (umbellaw04_DigestHexes.l0 kj8 a0 t108 (wrap64 (x4_1 + 1))) else (some false)) else (none)) = some r := by first | (rw [hji22] at H; exact H) | (simp only [hji22] at H ⊢; exact H)
                          by_cases c23 : 0 ≤ (ji22)
                          · rw [if_pos c23] at H
                            have c23b0 := eq_true c23
                            have c23b1 : decide (0 ≤ (ji22)) = true := decide_eq_true c23
                            clear c23
                            obtain ⟨ji24, hji24⟩ : ∃ j_ : Int, (shr .u8 (bt a0 (ji18)) (ji22)) = j_ := ⟨_, rfl⟩
                            replace H : (if (((bt t108 x4_1) - 48) % 256) = (Go.bits .and .u8 (ji24) 15) then (umbellaw04_DigestHexes.l0 kj8 a0 t108 (wrap64 (x4_1 + 1))) else (some false)) = some r := by first | (rw [hji24] at H; exact H) | (simp only [hji24] at H ⊢; exact H)
                            have hji24_ : ((bt a0 (ji18)) / 2 ^ min (ji22).toNat 8) = ji24 := hji24
                            have hji24z : (ji22) ≤ 8 → ((bt a0 (ji18)) / 2 ^ (ji22).toNat) = ji24 := shr_small hji24
                            by_cases c25 : (((bt t108 x4_1) - 48) % 256) = (Go.bits .and .u8 (ji24) 15)
                            · rw [if_pos c25] at H
                              have c25b0 : ((((bt t108 x4_1) - 48) % 256) == (Go.bits .and .u8 (ji24) 15)) = true := beq_iff_eq.mpr c25
                              have c25b1 : ((((bt t108 x4_1) - 48) % 256) != (Go.bits .and .u8 (ji24) 15)) = false := bne_eq_false_iff_eq.mpr c25
                              clear c25
                              have H' := Aside0.mk H
                              clear H
                              have p17 : 0 ≤ (x4_1 : Int) := of_decide_eq_true (by first | (with_reducible assumption) | assumption)
                              have q17 : x4_1 < (t108.size : Int) := of_decide_eq_true (by first | (with_reducible assumption) | assumption)
                              have hx17 := bt_at t108 x4_1
                              replace p17 := eq_true p17
                              replace q17 := eq_true q17
                              have p21 : 0 ≤ ((ji18) : Int) := of_decide_eq_true (by first | (with_reducible assumption) | assumption)
                              have q21 : (ji18) < (a0.size : Int) := of_decide_eq_true (by first | (with_reducible assumption) | assumption)
                              have hx21 := bt_at a0 (ji18)
                              replace p21 := eq_true p21
                              replace q21 := eq_true q21
                              go_wp2
                              go_roundg kj8
                              case measure => have := HK1.out; have := HJ8.out; omega
                              case rel => exact ⟨(wrap64 (x4_1 + 1)), (by first | rfl | (simp; done) | (simp [*]; done)), H', ⟨by have := HK1.out; have := HJ8.out; omega⟩, ⟨by repeat (first | (with_reducible first | exact HB.out | apply below_alloc | apply pw_below_drewN | apply below_drew1) | exact HB.out)⟩⟩
                            · rw [if_neg c25] at H
                              have c25b0 : ((((bt t108 x4_1) - 48) % 256) == (Go.bits .and .u8 (ji24) 15)) = false := beq_eq_false_iff_ne.mpr c25
                              have c25b1 : ((((bt t108 x4_1) - 48) % 256) != (Go.bits .and .u8 (ji24) 15)) = true := bne_iff_ne.mpr c25
                              obtain rfl := Option.some.inj H
                              have p17 : 0 ≤ (x4_1 : Int) := of_decide_eq_true (by first | (with_reducible assumption) | assumption)
                              have q17 : x4_1 < (t108.size : Int) := of_decide_eq_true (by first | (with_reducible assumption) | assumption)
                              have hx17 := bt_at t108 x4_1
                              replace p17 := eq_true p17
                              replace q17 := eq_true q17
                              have p21 : 0 ≤ ((ji18) : Int) := of_decide_eq_true (by first | (with_reducible assumption) | assumption)
                              have q21 : (ji18) < (a0.size : Int) := of_decide_eq_true (by first | (with_reducible assumption) | assumption)
                              have hx21 := bt_at a0 (ji18)
                              replace p21 := eq_true p21
                              replace q21 := eq_true q21
                              go_wp2
                              go_ret
                              exact ⟨by first | rfl | (simp [errW_none, errW_some] <;> rfl) | (simp only [← hji18, ← hji22, ← hji24]; first | rfl | (simp [errW_none, errW_some] <;> rfl)) | (simp [*, errW_none, errW_some] <;> rfl), by repeat (first | (with_reducible first | exact HB.out | apply below_alloc | apply pw_below_drewN | apply below_drew1) | exact HB.out)⟩
                          · rw [if_neg c23] at H
                            exact absurd H (by simp)
                        · rw [if_neg c20] at H
                          exact absurd H (by simp)
                      · rw [if_neg c19] at H
                        exact absurd H (by simp)
                    · rw [if_neg c16] at H
                      exact absurd H (by simp)
                  · rw [if_neg c15] at H
                    exact absurd H (by simp)
                · replace c14 := Bool.eq_false_iff.mpr c14
                  subst c14
                  have H1 : (if 0 ≤ x4_1 then (if x4_1 < (t108.size : Int) then (if (bt t108 x4_1) ≥ 97 then (umbellaw04_DigestHexes.j2 kj8 a0 t108 x4_1 (decide ((bt t108 x4_1) ≤ 102))) else (umbellaw04_DigestHexes.j2 kj8 a0 t108 x4_1 false)) else (none)) else (none)) = some r := by rw [if_neg (show ¬ (false = true) by decide)] at H; exact H
                  clear H
                  have H := H1
                  clear H1
                  have HC26 := Aside0.mk H
                  clear H
                  go_upto_region 13 with (fail)
                  go_cut [39] (fun v39 wc => ∃ (kq : Nat) (x39_25 : Bool), v39 = .bool x39_25 ∧ Aside0 (umbellaw04_DigestHexes.j2 kq a0 t108 x4_1 x39_25 = some r) ∧ Aside0 (kq ≤ kj8) ∧ Aside0 (Below w.heap.size w wc))
                  case first =>
                    have H := HC26.out
                    clear HC26
                    by_cases c27 : 0 ≤ x4_1
                    · rw [if_pos c27] at H
                      have c27b0 : decide (0 ≤ x4_1) = true := decide_eq_true c27
                      clear c27
                      (first | rw [c27b0] | (simp only [i64_w, i32_w]; rw [c27b0]) | skip)
                      by_cases c28 : x4_1 < (t108.size : Int)
                      · rw [if_pos c28] at H
                        have c28b0 : decide (x4_1 < (t108.size : Int)) = true := decide_eq_true c28
                        clear c28
                        by_cases c30 : (bt t108 x4_1) ≥ 97
                        · rw [if_pos c30] at H
                          have c30b0 : decide (97 ≤ (bt t108 x4_1)) = true := decide_eq_true c30
                          clear c30
                          have H' := Aside0.mk H
                          clear H
                          have p29 : 0 ≤ (x4_1 : Int) := of_decide_eq_true (by first | (with_reducible assumption) | assumption)
                          have q29 : x4_1 < (t108.size : Int) := of_decide_eq_true (by first | (with_reducible assumption) | assumption)
                          have hx29 := bt_at t108 x4_1
                          replace p29 := eq_true p29
                          replace q29 := eq_true q29
                          have p31 : 0 ≤ (x4_1 : Int) := of_decide_eq_true (by first | (with_reducible assumption) | assumption)
                          have q31 : x4_1 < (t108.size : Int) := of_decide_eq_true (by first | (with_reducible assumption) | assumption)
                          have hx31 := bt_at t108 x4_1
                          replace p31 := eq_true p31
                          replace q31 := eq_true q31
                          go_wp2
                          go_meet
                          case rel => exact ⟨_, (decide ((bt t108 x4_1) ≤ 102)), (by first | rfl | (simp; done) | (simp [*]; done)), H', ⟨by have := HK1.out; have := HJ8.out; first | omega | exact Nat.le_refl _⟩, ⟨by repeat (first | (with_reducible first | exact HB.out | apply below_alloc | apply pw_below_drewN | apply below_drew1) | exact HB.out)⟩⟩
                        · rw [if_neg c30] at H
                          have c30b0 : decide (97 ≤ (bt t108 x4_1)) = false := decide_eq_false c30
                          clear c30
                          have H' := Aside0.mk H
                          clear H
                          have p29 : 0 ≤ (x4_1 : Int) := of_decide_eq_true (by first | (with_reducible assumption) | assumption)
                          have q29 : x4_1 < (t108.size : Int) := of_decide_eq_true (by first | (with_reducible assumption) | assumption)
                          have hx29 := bt_at t108 x4_1
                          replace p29 := eq_true p29
                          replace q29 := eq_true q29
                          go_wp2
                          go_meet
                          case rel => exact ⟨_, (false), (by first | rfl | (simp; done) | (simp [*]; done)), H', ⟨by have := HK1.out; have := HJ8.out; first | omega | exact Nat.le_refl _⟩, ⟨by repeat (first | (with_reducible first | exact HB.out | apply below_alloc | apply pw_below_drewN | apply below_drew1) | exact HB.out)⟩⟩
                      · rw [if_neg c28] at H
                        exact absurd H (by simp)
                    · rw [if_neg c27] at H
                      exact absurd H (by simp)
                  case rest =>
                    clear HC26
                    try clear c1
                    try clear p1
                    try clear q1
                    try clear hx1
                    try clear c2
                    try clear c2b0
                    try clear c2b1
                    try clear p2
                    try clear q2
                    try clear hx2
                    try clear c3
                    try clear p3
                    try clear q3
                    try clear hx3
                    try clear c6
                    try clear c6b0
                    try clear c6b1
                    try clear p6
                    try clear c8
                    try clear c8b0
                    try clear c10
                    try clear c10b0
                    try clear p11
                    try clear q11
                    try clear hx11
                    try clear c12
                    try clear c12b0
                    try clear c13
                    try clear p13
                    try clear q13
                    try clear hx13
                    try clear c14
                    try clear c15
                    try clear c15b0
                    try clear c16
                    try clear c16b0
                    try clear p17
                    try clear q17
                    try clear hx17
                    try clear c19
                    try clear c19b0
                    try clear c20
                    try clear c20b0
                    try clear p21
                    try clear q21
                    try clear hx21
                    try clear c23
                    try clear c23b0
                    try clear c23b1
                    try clear c25
                    try clear c25b0
                    try clear c25b1
                    try clear c27
                    try clear c27b0
                    try clear c28
                    try clear c28b0
                    try clear p29
                    try clear q29
                    try clear hx29
                    try clear c30
                    try clear c30b0
                    try clear p31
                    try clear q31
                    try clear hx31
                    try clear p1
                    try clear p11
                    try clear p13
                    try clear p17
                    try clear p2
                    try clear p21
                    try clear p29
                    try clear p31
                    try clear p6
                    try clear q1
                    try clear q11
                    try clear q13
                    try clear q17
                    try clear q21
                    try clear q29
                    try clear q31
                    obtain ⟨kq, x39_25, rfl, HA, HJ25, HB⟩ := hcut
                    cases kq with
                    | zero => exact absurd HA.out (by simp [umbellaw04_DigestHexes.j2])
                    | succ kj25 =>
                      have H := HA.out
                      clear HA
                      simp only [umbellaw04_DigestHexes.j2] at H
                      by_cases c32 : x39_25 = true
                      · subst c32
                        have H1 : (if 0 ≤ x4_1 then (if x4_1 < (t108.size : Int) then (if 0 ≤ (wrap64 (Int.tdiv x4_1 2)) then (if (wrap64 (Int.tdiv x4_1 2)) < (a0.size : Int) then (if 0 ≤ (IntKind.u64.wrap (wrap64 (4 - (wrap64 (4 * (Int.tmod x4_1 2)))))) then (if ((((bt t108 x4_1) - 97) + 10) % 256) = (Go.bits .and .u8 (shr .u8 (bt a0 (wrap64 (Int.tdiv x4_1 2))) (IntKind.u64.wrap (wrap64 (4 - (wrap64 (4 * (Int.tmod x4_1 2))))))) 15) then (umbellaw04_DigestHexes.l0 kj25 a0 t108 (wrap64 (x4_1 + 1))) else (some false)) else (none)) else (none)) else (none)) else (none)) else (none)) = some r := by rw [if_pos rfl] at H; exact H
                        clear H
                        have H := H1
                        clear H1
                        by_cases c33 : 0 ≤ x4_1
                        · rw [if_pos c33] at H
                          have c33b0 : decide (0 ≤ x4_1) = true := decide_eq_true c33
                          clear c33
                          by_cases c34 : x4_1 < (t108.size : Int)
                          · rw [if_pos c34] at H
                            have c34b0 : decide (x4_1 < (t108.size : Int)) = true := decide_eq_true c34
                            clear c34
                            obtain ⟨ji36, hji36⟩ : ∃ j_ : Int, (wrap64 (Int.tdiv x4_1 2)) = j_ := ⟨_, rfl⟩
                            replace H : (if 0 ≤ (ji36) then (if (ji36) < (a0.size : Int) then (if 0 ≤ (IntKind.u64.wrap (wrap64 (4 - (wrap64 (4 * (Int.tmod x4_1 2)))))) then (if ((((bt t108 x4_1) - 97) + 10) % 256) = (Go.bits .and .u8 (shr .u8 (bt a0 (ji36)) (IntKind.u64.wrap (wrap64 (4 - (wrap64 (4 * (Int.tmod x4_1 2))))))) 15) then (umbellaw04_DigestHexes.l0 kj25 a0 t108 (wrap64 (x4_1 + 1))) else (some false)) else (none)) else (none)) else (none)) = some r := by first | (rw [hji36] at H; exact H) | (simp only [hji36] at H ⊢; exact H)
                            have hji36w : (IntKind.i64.wrap (Int.tdiv x4_1 2)) = ji36 := (i64_w _).trans hji36
                            by_cases c37 : 0 ≤ (ji36)
                            · rw [if_pos c37] at H
                              have c37b0 : decide (0 ≤ (ji36)) = true := decide_eq_true c37
                              clear c37
                              by_cases c38 : (ji36) < (a0.size : Int)
                              · rw [if_pos c38] at H
                                have c38b0 : decide ((ji36) < (a0.size : Int)) = true := decide_eq_true c38
                                clear c38
                                obtain ⟨ji40, hji40⟩ : ∃ j_ : Int, (IntKind.u64.wrap (wrap64 (4 - (wrap64 (4 * (Int.tmod x4_1 2)))))) = j_ := ⟨_, rfl⟩
                                replace H : (if 0 ≤ (ji40) then (if ((((bt t108 x4_1) - 97) + 10) % 256) = (Go.bits .and .u8 (shr .u8 (bt a0 (ji36)) (ji40)) 15) then (umbellaw04_DigestHexes.l0 kj25 a0 t108 (wrap64 (x4_1 + 1))) else (some false)) else (none)) = some r := by first | (rw [hji40] at H; exact H) | (simp only [hji40] at H ⊢; exact H)
                                by_cases c41 : 0 ≤ (ji40)
                                · rw [if_pos c41] at H
                                  have c41b0 := eq_true c41
                                  have c41b1 : decide (0 ≤ (ji40)) = true := decide_eq_true c41
                                  clear c41
                                  obtain ⟨ji42, hji42⟩ : ∃ j_ : Int, (shr .u8 (bt a0 (ji36)) (ji40)) = j_ := ⟨_, rfl⟩
                                  replace H : (if ((((bt t108 x4_1) - 97) + 10) % 256) = (Go.bits .and .u8 (ji42) 15) then (umbellaw04_DigestHexes.l0 kj25 a0 t108 (wrap64 (x4_1 + 1))) else (some false)) = some r := by first | (rw [hji42] at H; exact H) | (simp only [hji42] at H ⊢; exact H)
                                  have hji42_ : ((bt a0 (ji36)) / 2 ^ min (ji40).toNat 8) = ji42 := hji42
                                  have hji42z : (ji40) ≤ 8 → ((bt a0 (ji36)) / 2 ^ (ji40).toNat) = ji42 := shr_small hji42
                                  by_cases c43 : ((((bt t108 x4_1) - 97) + 10) % 256) = (Go.bits .and .u8 (ji42) 15)
                                  · rw [if_pos c43] at H
                                    have c43b0 : (((((bt t108 x4_1) - 97) + 10) % 256) == (Go.bits .and .u8 (ji42) 15)) = true := beq_iff_eq.mpr c43
                                    have c43b1 : (((((bt t108 x4_1) - 97) + 10) % 256) != (Go.bits .and .u8 (ji42) 15)) = false := bne_eq_false_iff_eq.mpr c43
                                    clear c43
                                    have H' := Aside0.mk H
                                    clear H
                                    have p35 : 0 ≤ (x4_1 : Int) := of_decide_eq_true (by first | (with_reducible assumption) | assumption)
                                    have q35 : x4_1 < (t108.size : Int) := of_decide_eq_true (by first | (with_reducible assumption) | assumption)
                                    have hx35 := bt_at t108 x4_1
                                    replace p35 := eq_true p35
                                    replace q35 := eq_true q35
                                    have p39 : 0 ≤ ((ji36) : Int) := of_decide_eq_true (by first | (with_reducible assumption) | assumption)
                                    have q39 : (ji36) < (a0.size : Int) := of_decide_eq_true (by first | (with_reducible assumption) | assumption)
                                    have hx39 := bt_at a0 (ji36)
                                    replace p39 := eq_true p39
                                    replace q39 := eq_true q39
                                    go_wp2
                                    go_roundg kj25
                                    case measure => have := HK1.out; have := HJ8.out; have := HJ25.out; omega
                                    case rel => exact ⟨(wrap64 (x4_1 + 1)), (by first | rfl | (simp; done) | (simp [*]; done)), H', ⟨by have := HK1.out; have := HJ8.out; have := HJ25.out; omega⟩, ⟨by repeat (first | (with_reducible first | exact HB.out | apply below_alloc | apply pw_below_drewN | apply below_drew1) | exact HB.out)⟩⟩
                                  · rw [if_neg c43] at H
                                    have c43b0 : (((((bt t108 x4_1) - 97) + 10) % 256) == (Go.bits .and .u8 (ji42) 15)) = false := beq_eq_false_iff_ne.mpr c43
                                    have c43b1 : (((((bt t108 x4_1) - 97) + 10) % 256) != (Go.bits .and .u8 (ji42) 15)) = true := bne_iff_ne.mpr c43
                                    obtain rfl := Option.some.inj H
                                    have p35 : 0 ≤ (x4_1 : Int) := of_decide_eq_true (by first | (with_reducible assumption) | assumption)
                                    have q35 : x4_1 < (t108.size : Int) := of_decide_eq_true (by first | (with_reducible assumption) | assumption)
                                    have hx35 := bt_at t108 x4_1
                                    replace p35 := eq_true p35
                                    replace q35 := eq_true q35
                                    have p39 : 0 ≤ ((ji36) : Int) := of_decide_eq_true (by first | (with_reducible assumption) | assumption)
                                    have q39 : (ji36) < (a0.size : Int) := of_decide_eq_true (by first | (with_reducible assumption) | assumption)
                                    have hx39 := bt_at a0 (ji36)
                                    replace p39 := eq_true p39
                                    replace q39 := eq_true q39
                                    go_wp2
                                    go_ret
                                    exact ⟨by first | rfl | (simp [errW_none, errW_some] <;> rfl) | (simp only [← hji36, ← hji40, ← hji42]; first | rfl | (simp [errW_none, errW_some] <;> rfl)) | (simp [*, errW_none, errW_some] <;> rfl), by repeat (first | (with_reducible first | exact HB.out | apply below_alloc | apply pw_below_drewN | apply below_drew1) | exact HB.out)⟩
                                · rw [if_neg c41] at H
                                  exact absurd H (by simp)
                              · rw [if_neg c38] at H
                                exact absurd H (by simp)
                            · rw [if_neg c37] at H
                              exact absurd H (by simp)
                          · rw [if_neg c34] at H
                            exact absurd H (by simp)
                        · rw [if_neg c33] at H
                          exact absurd H (by simp)
                      · replace c32 := Bool.eq_false_iff.mpr c32
                        subst c32
                        have H1 : (some false) = some r := by rw [if_neg (show ¬ (false = true) by decide)] at H; exact H
                        clear H
                        have H := H1
                        clear H1
                        obtain rfl := Option.some.inj H
                        go_wp2
                        go_ret
                        exact ⟨by first | rfl | (simp [errW_none, errW_some] <;> rfl) | (simp [*, errW_none, errW_some] <;> rfl), by repeat (first | (with_reducible first | exact HB.out | apply below_alloc | apply pw_below_drewN | apply below_drew1) | exact HB.out)⟩
          · rw [if_neg c8] at H
            have c8b0 : decide (x4_1 < (t108.size : Int)) = false := decide_eq_false c8
            clear c8
            replace H := Option.bind_eq_some_iff.mp H
            obtain ⟨t109, A440, H⟩ := H
            replace H : (some t109) = some r := H
            have A44 := Aside0.mk A440
            clear A440
            obtain rfl := Option.some.inj H
            go_wp2_with (first | ((with_reducible refine gate_callee (f := 10) rfl ?_); refine goesL_ (some 68) rfl rfl Tryd.func10 (by kernel_rfl) rfl #[] rfl (by (try simp only [List.map_toArray, List.map_cons, List.map_nil]); first | done | rfl | (simp only [List.length_drop, List.length_take]; rfl)) ?_; (with_reducible refine (umbellaw04_wakes.calls  t109 _ ?side1 A44.out).mono ?_); (case side1 => exact Glob.below HG.out (by repeat (first | (with_reducible first | exact HB.out | apply below_alloc | apply pw_below_drewN | apply below_drew1) | exact HB.out))); rintro e w45 ⟨rfl, hb⟩; refine ⟨_, rfl, ?_⟩; have n0_ := Aside0.mk (below_step (by repeat (first | (with_reducible first | exact HB.out | apply below_alloc | apply pw_below_drewN | apply below_drew1) | exact HB.out)) hb); clear HB; have HB := n0_; clear n0_; (try clear hb); (try clear hb2); (try clear hk); (try clear hi)))
            go_ret
            exact ⟨by first | rfl | (simp [errW_none, errW_some] <;> rfl) | (simp [*, errW_none, errW_some] <;> rfl), by repeat (first | (with_reducible first | exact HB.out | apply below_alloc | apply pw_below_drewN | apply below_drew1) | exact HB.out)⟩
    · rw [if_neg c6] at H
      have c6b0 : ((t108.size : Int) == (wrap64 (2 * (a0.size : Int)))) = false := beq_eq_false_iff_ne.mpr c6
      have c6b1 : ((t108.size : Int) != (wrap64 (2 * (a0.size : Int)))) = true := bne_iff_ne.mpr c6
      obtain rfl := Option.some.inj H
      go_enter Tryd.func6, Tryd.ntmps6
      go_wp2_with (first | ((with_reducible refine gate_callee (f := 13) rfl ?_); refine goesL_ (some 11) rfl rfl Tryd.func13 (by kernel_rfl) rfl #[.string a0] rfl (by (try simp only [List.map_toArray, List.map_cons, List.map_nil]); first | done | rfl | (simp only [List.length_drop, List.length_take]; rfl)) ?_; (with_reducible refine (digest_Hex.calls a0 t108 _ A5.out).mono ?_); rintro e w46 ⟨rfl, hb⟩; refine ⟨_, rfl, ?_⟩; have n0_ := Aside0.mk (below_step (by repeat (first | (with_reducible first | exact HB.out | apply below_alloc | apply pw_below_drewN | apply below_drew1) | exact HB.out)) hb); clear HB; have HB := n0_; clear n0_; (try clear hb); (try clear hb2); (try clear hk); (try clear hi)))
      go_ret
      exact ⟨by first | rfl | (simp [errW_none, errW_some] <;> rfl) | (simp [*, errW_none, errW_some] <;> rfl), by repeat (first | (with_reducible first | exact HB.out | apply below_alloc | apply pw_below_drewN | apply below_drew1) | exact HB.out)⟩

/-- THE ONE PURE STATEMENT of umbellaw04_DigestHexes: yours. -/
def umbellaw04_DigestHexes.Pure : Prop := ∀ (a0 : ByteArray), a0.size ≤ 140737488351232 → ∃ k, umbellaw04_DigestHexes.f k a0 = some true
theorem umbellaw04_DigestHexes.walk (P : umbellaw04_DigestHexes.Pure) (a0 : ByteArray) (w : World) (hG : Glob w) (w0 : a0.size ≤ 140737488351232) :
    Calls Tryd.prog 6 #[.string a0] w fun e w' => e = .returned (.bool true) ∧ Below w.heap.size w w' := by
  obtain ⟨k, h⟩ := P a0 w0
  refine (umbellaw04_DigestHexes.calls k a0 true w hG h).mono ?_
  rintro e w' ⟨rfl, hd⟩
  exact ⟨rfl, hd⟩

end Go.Proofs.YtbphehijikdkjaaDoor.PDgl
