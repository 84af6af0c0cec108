/-
  umbellaw22.wakes by hand.
-/
import Derived.Test.YtbgojedhciimaaaLisC
namespace Go.Proofs.Ytbgojedhciimaaa.LisW
open Go.RowKit Go.Proofs.YtbgojedhciimaaaW.PrintWords Go.Proofs.YtbgojedhciimaaaW.PrintMore Go.Proofs.Ytbgojedhciimaaa.Cm Go.Proofs.Ytbgojedhciimaaa.Str Go.Proofs.Ytbgojedhciimaaa.LisH Go.Proofs.Ytbgojedhciimaaa.LisE Go.Proofs.Ytbgojedhciimaaa.LisS Go.Proofs.Ytbgojedhciimaaa.LisP Go.Proofs.Ytbgojedhciimaaa.LisC Go.Proofs.Ytbgojedhciimaaa.PLis
set_option linter.unusedVariables false
open Classical
theorem enc1 (w : World) : Calls Try.prog 25 #[.slice (some { block := w.heap.size, off := 0 }) 2 2, .int .i64 150] (w.alloc (.cells #[.int .i64 3, .int .i64 7] 3)) fun e w' => e = .returned (.tuple #[.string ⟨#[0, 150, 2, 0, 3, 0, 7]⟩, .bool true]) ∧ Below w.heap.size w w' := by
  have h := encode_c _ 2 [3, 7] 150 _ (c_lit .i64 w [3, 7] 3 (by decide)) (by decide) (by decide)
  rw [enc37, decide_eq_true may37] at h
  exact h.mono fun e w' ⟨q, b⟩ => ⟨q, (below_alloc (Below.refl _ w) _).trans (b.mono (by simp))⟩
theorem enc2 (w : World) : ∃ t, Calls Try.prog 25 #[.slice (some { block := w.heap.size, off := 0 }) 2 2, .int .i64 0] (w.alloc (.cells #[.int .i64 7, .int .i64 3] 3)) fun e w' => e = .returned (.tuple #[.string t, .bool false]) ∧ Below w.heap.size w w' := by
  have h := encode_c _ 2 [7, 3] 0 _ (c_lit .i64 w [7, 3] 3 (by decide)) (by decide) (by decide)
  rw [decide_eq_false may73] at h
  exact ⟨_, h.mono fun e w' ⟨q, b⟩ => ⟨q, (below_alloc (Below.refl _ w) _).trans (b.mono (by simp))⟩⟩
theorem dec1 (w : World) : Calls Try.prog 27 #[.string ⟨#[0, 150, 2, 0, 3, 0, 7]⟩] w fun e w' => ∃ A c, e = .returned (.tuple #[.slice A 2 c, .int .i64 150, .bool true]) ∧ 2 ≤ c ∧ Kd.C (Kd.int .i64) w' A 2 [3, 7] ∧ Below w.heap.size w w' := by
  have h := decode_c ⟨#[0, 150, 2, 0, 3, 0, 7]⟩ (by decide) w
  rw [← enc37, dec_enc _ _ may37, enc37] at h
  refine h.mono ?_
  rintro e w' ⟨v, rfl, hR, hB⟩
  obtain ⟨A, c, rfl, hc, hC⟩ := Kd.R_reads hR
  exact ⟨A, c, rfl, hc, hC, hB⟩
theorem chunks21 : chunks (List.replicate 21 0) = [List.replicate 20 0, [0]] := by decide +kernel
theorem info3w : (Try.prog.info? 3).map (fun i => (i.zero, i.size, i.bytes)) = some (some (.int .i64 0), 1, 8) := by kernel_rfl
theorem split1 (A : Option Addr) (c : Nat) (w : World) (hC : Kd.C (Kd.int .i64) w A 21 (List.replicate 21 0)) (hc : 21 ≤ c) : Calls Try.prog 31 #[.slice A 21 c] w fun e w' => ∃ (A' : Option Addr) (c0 : Nat), e = .returned (.slice A' 2 c0) ∧ Kd.C (Kd.slice 3 (Kd.int .i64)) w' A' 2 [List.replicate 20 0, [0]] ∧ Below w.heap.size w w' := by
  have h := split_c A c (List.replicate 21 0) w (by rw [List.length_replicate]; exact hC) (by rw [List.length_replicate]; exact hc) (by decide)
  rw [List.length_replicate, chunks21] at h
  refine h.mono ?_
  rintro e w' ⟨v, rfl, hR, hB⟩
  obtain ⟨A', c', rfl, hc', hC'⟩ := Kd.R_reads hR
  exact ⟨A', c', rfl, hC', hB⟩
theorem ints1 (A : Option Addr) (c : Nat) (w : World) (hC : Kd.C (Kd.int .i64) w A 2 [3, 7]) (hc : 2 ≤ c) : Calls Try.prog 29 #[.slice A 2 c, .slice (some { block := w.heap.size, off := 0 }) 2 2] (w.alloc (.cells #[.int .i64 3, .int .i64 7] 3)) fun e w' => e = .returned (.bool true) ∧ Below w.heap.size w w' := by
  have h := ints_c A c [3, 7] _ 2 [3, 7] _ (Kd.C_alloc hC _) hc (c_lit .i64 w [3, 7] 3 (by decide)) (by decide) (by decide)
  rw [decide_eq_true rfl] at h
  exact h.mono fun e w' ⟨q, b⟩ => ⟨q, (below_alloc (Below.refl _ w) _).trans (b.below.mono (by simp))⟩
set_option maxHeartbeats 2000000 in
theorem wakes_c (w : World) : Calls Try.prog 24 #[] w fun e w' => e = .returned (.bool true) ∧ Below w.heap.size w w' := by
  have E1 := Lib.hid enc1
  have E2 := Lib.hid enc2
  have D1 := Lib.hid dec1
  have hC1 := Cm.Calm.refl w
  go_enter Try.func24, Try.ntmps24
  go_wp2_with fail
  refine (E1.out _).mono ?_
  rintro e w1 ⟨rfl, hB1⟩
  go_wp2_with fail
  refine (D1.out _).mono ?_
  rintro e w2 ⟨A, c, rfl, hc, hC, hB2⟩
  go_wp2_with fail
  obtain ⟨t, T⟩ := E2.out w2
  refine T.mono ?_
  rintro e w3 ⟨rfl, hB3⟩
  go_wp2_with ((with_reducible refine gate_dst (N := 25) rfl ?_); refine Kd.R_make (Kd.int .i64) w3.heap.size 3 rfl (N := 25) rfl 39 _ _ rfl 21 rfl rfl Try.underlying39 (.int .i64 0) 8 info3w rfl (by decide) (by omega) 0 (ok := fun _ => True) (okp := fun _ => True) rfl (fun _ hk => hk) trivial (by decide) (by decide) (Below.refl _ _) (Nat.le_refl _) ?_; intro v25 w4 ho hb hg_ hnew_; clear hg_ hnew_)
  obtain ⟨A4, c4, rfl, hc4, hC4⟩ := Kd.R_reads ho
  simp only [Int.reduceToNat, List.length_replicate] at hc4 hC4 ⊢
  have S1 := Lib.hid (split1 A4 c4 w4 hC4 hc4)
  clear ho
  go_wp2_with fail
  refine S1.out.mono ?_
  rintro e w5 ⟨A5, c5, rfl, hC5, hB5⟩
  have hB13 : Below w1.heap.size w1 w5 := hB2.trans ((hB3.trans ((hb.trans (hB5.mono hb.size)).mono hB3.size)).mono hB2.size)
  have hB25 : Below w2.heap.size w2 w5 := hB3.trans ((hb.trans (hB5.mono hb.size)).mono hB3.size)
  have I1 := Lib.hid (ints1 A c w5 (Kd.C_below hC hB25) hc)
  have hB : Below w.heap.size w w5 := hB1.trans (hB13.mono hB1.size)
  go_wp2_with fail
  refine I1.out.mono ?_
  rintro e w6 ⟨rfl, hB6⟩
  obtain ⟨ad, A0, c0, rfl, h0, _⟩ := at_L2 (Kd.C_below hC5 hB6) 0 (by decide) (by decide)
  obtain ⟨ad1, A1, c1, e1, h1, _⟩ := at_L2 (Kd.C_below hC5 hB6) 1 (by decide) (by decide)
  cases e1
  have h0' : w6.cell? (ad.add 0) = some (.slice A0 20 c0) := h0
  have h1' : w6.cell? (ad.add 1) = some (.slice A1 1 c1) := h1
  have h0'' : w6.cell? ad = some (.slice A0 20 c0) := by rw [← h0']; cases ad; simp [Addr.add]
  have h1'' : w6.cell? { block := ad.block, off := ad.off + 1 } = some (.slice A1 1 c1) := h1'
  have hBe : Below w.heap.size w w6 := hB.trans (hB6.mono hB.size)
  clear h0 h1 hC5 hC hB1 hB2 hB3 hB5 hB6 hB13 hB25 hB I1 S1 T E1 E2 D1
  go_wp2
  go_ret
  exact ⟨rfl, hBe⟩
end Go.Proofs.Ytbgojedhciimaaa.LisW
