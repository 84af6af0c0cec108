/-
  The law SumRows, walked by hand over the contracts.
-/
import Derived.Test.YtbgojedhciimaaaDoorSumC
namespace Go.Proofs.YtbgojedhciimaaaDoor.SumR
open Go.RowKit Go.Proofs.YtbgojedhciimaaaDoorW.PrintWords Go.Proofs.YtbgojedhciimaaaDoor.PSum Go.Proofs.YtbgojedhciimaaaDoor.SumH Go.Proofs.YtbgojedhciimaaaDoor.SumL Go.Proofs.YtbgojedhciimaaaDoor.SumC Go.Proofs.YtbgojedhciimaaaDoor.Cm
open Str (str_size)
set_option linter.unusedVariables false
theorem wakes_c (w : World) (hG : Glob w) : Calls Tryd.prog 7 #[] w fun e w' => e = .returned (.bool true) ∧ Below w.heap.size w w' :=
  umbellaw03_wakes.calls 20 true w hG wakes_20
set_option maxHeartbeats 1000000 in
theorem walk (a b : ByteArray) (w : World) (hG : Glob w) (hwa : a.size ≤ 140737488351232) (hwb : b.size ≤ 140737488351232) : Calls Tryd.prog 4 #[.string a, .string b] w fun e w' => e = .returned (.bool true) ∧ Below w.heap.size w w' := by
  have hC := Cm.Calm.refl w
  by_cases ha : a.size > 1000
  · have ha' : decide ((1000 : Int) < a.size) = true := by simp; omega
    go_enter Tryd.func4, Tryd.ntmps4
    go_wp2_with (go_at_call 7; refine ((Calm.call hC (wakes_c _ hG)).mono ?_); rintro e w1 ⟨rfl, hC1⟩)
    go_ret
    exact ⟨rfl, hC1.below⟩
  · by_cases hb : b.size > 1000
    · have ha' : decide ((1000 : Int) < a.size) = false := by simp; omega
      have hb' : decide ((1000 : Int) < b.size) = true := by simp; omega
      go_enter Tryd.func4, Tryd.ntmps4
      go_wp2_with (go_at_call 7; refine ((Calm.call hC (wakes_c _ hG)).mono ?_); rintro e w1 ⟨rfl, hC1⟩)
      go_ret
      exact ⟨rfl, hC1.below⟩
    · have ha' : decide ((1000 : Int) < a.size) = false := by simp; omega
      have hb' : decide ((1000 : Int) < b.size) = false := by simp; omega
      obtain ⟨c, hc⟩ : ∃ c, c = crcOf a := ⟨_, rfl⟩
      obtain ⟨d, hd⟩ : ∃ d, d = crcOf (a ++ b) := ⟨_, rfl⟩
      obtain ⟨p, hp⟩ : ∃ p, p = strOfNums (putL c) := ⟨_, rfl⟩
      have hps : p.size = 4 := by rw [hp, str_size]; rfl
      obtain ⟨r0, r1⟩ := crcOf_range a
      rw [← hc] at r0 r1
      have sz : (a ++ b).size ≤ 2000 := by rw [ByteArray.size_append]; omega
      have C1 := Lib.hid fun W hG => of_c a hwa W hG
      have C2 := Lib.hid fun W => put_c c W
      have C3 := Lib.hid fun W => get_c (p ++ b) (by rw [ByteArray.size_append]; omega) W
      have C4 := Lib.hid fun W hG => add_c c b r0 r1 hwb W hG
      have C5 := Lib.hid fun W hG => of_c (a ++ b) (by omega) W hG
      have C6 := Lib.hid fun W hG => add_c c ⟨#[]⟩ r0 r1 (by decide) W hG
      rw [← hc] at C1
      rw [← hp] at C2
      rw [hp, get_put c r0 r1, ← hp] at C3
      rw [hc, crc_append, ← hc, ← hd] at C4
      rw [← hd] at C5
      rw [hc, crc_nil, ← hc] at C6
      have e1 : (c == c) = true := by simp
      have e2 : (d == d) = true := by simp
      have g1 : decide (p.size + b.size ≤ 9223372036854775807) = true := by rw [decide_eq_true_iff]; omega
      have g2 : decide (a.size + b.size ≤ 9223372036854775807) = true := by rw [decide_eq_true_iff]; omega
      have g3 : (p.size + b.size ≤ 9223372036854775807) = True := eq_true (by omega)
      have g4 : (a.size + b.size ≤ 9223372036854775807) = True := eq_true (by omega)
      have g5 : (9223372036854775807 < p.size + b.size) = False := eq_false (by omega)
      have g6 : (9223372036854775807 < a.size + b.size) = False := eq_false (by omega)
      clear hc hd hp hps sz
      go_enter Tryd.func4, Tryd.ntmps4
      go_wp2_with fail
      refine ((Calm.call hC (C1.out _ hG)).mono ?_); rintro e w1 ⟨rfl, hC1⟩
      go_wp2_with fail
      refine ((Calm.call hC1 (C2.out _)).mono ?_); rintro e w2 ⟨rfl, hC2⟩
      go_wp2_with fail
      refine ((Calm.call hC2 (C3.out _)).mono ?_); rintro e w3 ⟨rfl, hC3⟩
      clear hC hC1 hC2
      go_wp2_with fail
      repeat ((first | with_reducible refine (Calm.call hC3 (C1.out _ (hG.below hC3.below))).mono ?_ | with_reducible refine (Calm.call hC3 (C4.out _ (hG.below hC3.below))).mono ?_ | with_reducible refine (Calm.call hC3 (C5.out _ (hG.below hC3.below))).mono ?_ | with_reducible refine (Calm.call hC3 (C6.out _ (hG.below hC3.below))).mono ?_ | with_reducible refine (Calm.call hC3 (wakes_c _ (hG.below hC3.below))).mono ?_); rintro e w9 ⟨rfl, hC9⟩; clear hC3; have hC3 := hC9; clear hC9; go_wp2_with fail)
      go_ret
      exact ⟨rfl, hC3.below⟩
end Go.Proofs.YtbgojedhciimaaaDoor.SumR
