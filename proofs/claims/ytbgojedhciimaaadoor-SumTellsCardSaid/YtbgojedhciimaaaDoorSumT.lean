/-
  The law SumTells, walked by hand over the contracts.
-/
import Derived.Test.YtbgojedhciimaaaDoorSumR
import Derived.Test.YtbgojedhciimaaaDoorSumF
namespace Go.Proofs.YtbgojedhciimaaaDoor.SumT
open Go.RowKit Go.Proofs.YtbgojedhciimaaaDoorW.PrintWords Go.Proofs.YtbgojedhciimaaaDoor.PSum Go.Proofs.YtbgojedhciimaaaDoor.SumH Go.Proofs.YtbgojedhciimaaaDoor.SumL Go.Proofs.YtbgojedhciimaaaDoor.SumC Go.Proofs.YtbgojedhciimaaaDoor.Cm
open Str (str_size)
open SumR (wakes_c)
set_option linter.unusedVariables false
theorem ref_put_c (v : Int) (w : World) : Calls Tryd.prog 9 #[.int .u32 v] w fun e w' => e = .returned (.string (strOfNums (putL v))) ∧ Below w.heap.size w w' :=
  umbelref03_Put.calls v _ w (ref_put_ok v)
theorem ref_of_c (s : ByteArray) (hs : s.size ≤ 140737488351232) (w : World) : Calls Tryd.prog 11 #[.string s] w fun e w' => e = .returned (.int .u32 (crcOf s)) ∧ Below w.heap.size w w' :=
  (SumF.ref_of s w hs).mono fun _ _ ⟨he, hd⟩ => ⟨he, hd ▸ Below.refl _ _⟩
theorem ref_add_c (c : Int) (s : ByteArray) (h0 : 0 ≤ c) (h1 : c < 4294967296) (hs : s.size ≤ 140737488351232) (w : World) : Calls Tryd.prog 13 #[.int .u32 c, .string s] w fun e w' => e = .returned (.int .u32 (crcAdd c s)) ∧ Below w.heap.size w w' := by
  obtain ⟨n, rfl⟩ := Int.eq_ofNat_of_zero_le h0
  exact (SumF.ref_add n s w hs (by omega)).mono fun _ _ ⟨he, hd⟩ => ⟨he, hd ▸ Below.refl _ _⟩
set_option maxHeartbeats 1000000 in
theorem walk (a : ByteArray) (c : Int) (w : World) (hG : Glob w) (hwa : a.size ≤ 140737488351232) (hwf : (Lit.int .u32 c).wf = true) : Calls Tryd.prog 3 #[.string a, .int .u32 c] w fun e w' => e = .returned (.bool true) ∧ Below w.heap.size w w' := by
  have hm : IntKind.u32.min ≤ c ∧ c ≤ IntKind.u32.max := by simpa [Lit.wf] using hwf
  have h0 : 0 ≤ c := hm.1
  have h1 : c < 4294967296 := by have h2 := hm.2; have : IntKind.u32.max = 4294967295 := rfl; omega
  clear hm hwf
  have hC3 := Cm.Calm.refl w
  by_cases ha : a.size > 2000
  · have ha' : decide ((2000 : Int) < a.size) = true := by simp; omega
    go_enter Tryd.func3, Tryd.ntmps3
    go_wp2_with (go_at_call 7; refine ((Calm.call hC3 (wakes_c _ hG)).mono ?_); rintro e w1 ⟨rfl, hC1⟩)
    go_ret
    exact ⟨rfl, hC1.below⟩
  · have ha' : decide ((2000 : Int) < a.size) = false := by simp; omega
    obtain ⟨x, hx⟩ : ∃ x, x = crcOf a := ⟨_, rfl⟩
    obtain ⟨y, hy⟩ : ∃ y, y = crcAdd c a := ⟨_, rfl⟩
    obtain ⟨p, hp⟩ : ∃ p, p = strOfNums (putL c) := ⟨_, rfl⟩
    have C1 := Lib.hid fun W hG => of_c a hwa W hG
    have C2 := Lib.hid fun W => put_c c W
    have C3 := Lib.hid fun W => ref_put_c c W
    have C4 := Lib.hid fun W hG => add_c c a h0 h1 hwa W hG
    have C5 := Lib.hid fun W => ref_of_c a hwa W
    have C6 := Lib.hid fun W => ref_add_c c a h0 h1 hwa W
    rw [← hx] at C1 C5
    rw [← hp] at C2 C3
    rw [← hy] at C4 C6
    have e1 : (x == x) = true := by simp
    have e2 : (y == y) = true := by simp
    have e3 : (p.toList == p.toList) = true := by simp
    by_cases hs : a.size < 4
    · have G := Lib.hid fun W => get_n a hs W
      have k1 : decide ((4 : Int) ≤ a.size) = false := by simp; omega
      clear hx hy hp hs ha
      go_enter Tryd.func3, Tryd.ntmps3
      go_wp2_with fail
      refine (Calm.call hC3 (G.out _)).mono ?_; rintro e w9 ⟨rfl, hC9⟩; clear hC3; have hC3 := hC9; clear hC9; go_wp2_with fail
      refine wp_region_calm_lit w (by kernel_rfl) (by kernel_rfl) hC3 ?_
      repeat (first | go_big_quiet_step (fail) | (refine wpQuiet_step (fun K hK => ?_); go_simp; first | (refine hK _ ?_; clear hK K) | (refine ⟨_, fun _ _ => rfl, hK _ ?_⟩; clear hK K) | (apply Exists.intro; refine ⟨fun _ hc_ => ?_, hK _ ?_⟩; (fail); clear hK K)))
      refine wpQuiet_nil ?_
      intro w7 hC7; clear hC3; have hC3 := hC7; clear hC7
      go_wp2_with fail
      repeat ((first | with_reducible refine (Calm.call hC3 (C1.out _ (hG.below hC3.below))).mono ?_ | with_reducible refine (Calm.call hC3 (C2.out _)).mono ?_ | with_reducible refine (Calm.call hC3 (C3.out _)).mono ?_ | with_reducible refine (Calm.call hC3 (C4.out _ (hG.below hC3.below))).mono ?_ | with_reducible refine (Calm.call hC3 (C5.out _)).mono ?_ | with_reducible refine (Calm.call hC3 (C6.out _)).mono ?_ | with_reducible refine (Calm.call hC3 (wakes_c _ (hG.below hC3.below))).mono ?_); rintro e w9 ⟨rfl, hC9⟩; clear hC3; have hC3 := hC9; clear hC9; go_wp2_with fail)
      go_ret
      exact ⟨rfl, hC3.below⟩
    · have G := Lib.hid fun W => get_c a (by omega) W
      obtain ⟨q, hq⟩ : ∃ q, q = strOfNums (putL (be4 a)) := ⟨_, rfl⟩
      have P := Lib.hid fun W => ref_put_c (be4 a) W
      rw [← hq] at P
      rw [put_get a (by omega)] at hq
      have e4 : (q.toList == (a.extract 0 4).toList) = true := by rw [hq]; simp
      have k1 : decide ((4 : Int) ≤ a.size) = true := by simp; omega
      have k2 : decide (a.size < 4) = false := by simp; omega
      have k3 : 4 ≤ a.size := by omega
      have k4 : (4 : Int) ≤ a.size := by omega
      clear hx hy hp hs ha hq
      go_enter Tryd.func3, Tryd.ntmps3
      go_wp2_with fail
      refine (Calm.call hC3 (G.out _)).mono ?_; rintro e w9 ⟨rfl, hC9⟩; clear hC3; have hC3 := hC9; clear hC9; go_wp2_with fail
      refine wp_region_calm_lit w (by kernel_rfl) (by kernel_rfl) hC3 ?_
      repeat (first | go_big_quiet_step (fail) | (refine wpQuiet_step (fun K hK => ?_); go_simp; first | (refine hK _ ?_; clear hK K) | (refine ⟨_, fun _ _ => rfl, hK _ ?_⟩; clear hK K) | (apply Exists.intro; refine ⟨fun _ hc_ => ?_, hK _ ?_⟩; (exact Calm.call hc_ (P.out _)); clear hK K)))
      refine wpQuiet_nil ?_
      intro w7 hC7; clear hC3; have hC3 := hC7; clear hC7
      go_wp2_with fail
      repeat ((first | with_reducible refine (Calm.call hC3 (C1.out _ (hG.below hC3.below))).mono ?_ | with_reducible refine (Calm.call hC3 (C2.out _)).mono ?_ | with_reducible refine (Calm.call hC3 (C3.out _)).mono ?_ | with_reducible refine (Calm.call hC3 (C4.out _ (hG.below hC3.below))).mono ?_ | with_reducible refine (Calm.call hC3 (C5.out _)).mono ?_ | with_reducible refine (Calm.call hC3 (C6.out _)).mono ?_ | with_reducible refine (Calm.call hC3 (wakes_c _ (hG.below hC3.below))).mono ?_); rintro e w9 ⟨rfl, hC9⟩; clear hC3; have hC3 := hC9; clear hC9; go_wp2_with fail)
      go_ret
      exact ⟨rfl, hC3.below⟩
end Go.Proofs.YtbgojedhciimaaaDoor.SumT
