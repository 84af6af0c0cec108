/-
  The waking calls of the laws of package float.
-/
import Derived.Test.YtbphehijikdkjaaFltR
namespace Go.Proofs.Ytbphehijikdkjaa.FltW
open Go.RowKit Go.Proofs.Ytbphehijikdkjaa.FltH Go.Proofs.Ytbphehijikdkjaa.FltK Go.Proofs.Ytbphehijikdkjaa.FltV Go.Proofs.Ytbphehijikdkjaa.FltR Go.Proofs.YtbphehijikdkjaaW.PrintWords Go.Proofs.Ytbphehijikdkjaa.Str Go.Proofs.Ytbphehijikdkjaa.Cm
set_option linter.unusedVariables false
/-- A call that leaves the world as it was. -/
theorem of_same {f : Nat} {args : Array Value} {w : World} {r : Value} (h : Calls Try.prog f args w fun e w' => e = .returned r ∧ w' = w) : Calls Try.prog f args w fun e w' => e = .returned r ∧ Below w.heap.size w w' :=
  h.mono fun _ _ ⟨he, hd⟩ => ⟨he, hd ▸ Below.refl _ _⟩
theorem nan_c (w : World) : Calls Try.prog 25 #[] w fun e w' => e = .returned (.float .f64 9221120237041090561) ∧ w' = w := by
  have hfr : ∀ W, (callFunc 8 #[.int .u64 9221120237041090561]).run Try.prog W = .ok (.value (.float .f64 9221120237041090561)) W := fun W => from_run 9221120237041090561 W
  go_enter Try.func25, Try.ntmps25
  go_wp2
  go_ret
  exact ⟨rfl, rfl⟩
theorem inf_neg (w : World) : Calls Try.prog 20 #[.int .i64 (-1)] w fun e w' => e = .returned (.float .f64 18442240474082181120) ∧ w' = w := by
  have hfr : ∀ W, (callFunc 8 #[.int .u64 18442240474082181120]).run Try.prog W = .ok (.value (.float .f64 18442240474082181120)) W := fun W => from_run 18442240474082181120 W
  go_enter Try.func20, Try.ntmps20
  go_wp2
  go_ret
  exact ⟨rfl, rfl⟩
theorem inf_pos (w : World) : Calls Try.prog 20 #[.int .i64 1] w fun e w' => e = .returned (.float .f64 9218868437227405312) ∧ w' = w := by
  have hfr : ∀ W, (callFunc 8 #[.int .u64 9218868437227405312]).run Try.prog W = .ok (.value (.float .f64 9218868437227405312)) W := fun W => from_run 9218868437227405312 W
  go_enter Try.func20, Try.ntmps20
  go_wp2
  go_ret
  exact ⟨rfl, rfl⟩
theorem val_c {s : ByteArray} {u : Nat} {o : Bool} (h : valS s = (u, o)) (w : World) : Calls Try.prog 9 #[.string s] w fun e w' => e = .returned (.tuple #[.float .f64 u, .bool o]) ∧ Below w.heap.size w w' := by
  have := value_c s w
  rw [h] at this
  exact this
theorem ky_c {b : Nat} {t : ByteArray} (hb : b < 18446744073709551616) (h : strOfNums (be8 (ordB b)) = t) (w : World) : Calls Try.prog 11 #[.float .f64 b] w fun e w' => e = .returned (.string t) ∧ Below w.heap.size w w' := by
  have := key_c b hb w
  rw [h] at this
  exact this
theorem ls_c {a b : Nat} {o : Bool} (h : lessB a b = o) (w : World) : Calls Try.prog 14 #[.float .f64 a, .float .f64 b] w fun e w' => e = .returned (.bool o) ∧ Below w.heap.size w w' := by
  have := of_same (less_c a b w)
  rw [h] at this
  exact this
theorem sm_c {a b : Nat} {o : Bool} (h : sameB a b = o) (w : World) : Calls Try.prog 16 #[.float .f64 a, .float .f64 b] w fun e w' => e = .returned (.bool o) ∧ Below w.heap.size w w' := by
  have := of_same (same_c a b w)
  rw [h] at this
  exact this
set_option maxHeartbeats 1000000 in
theorem wakes_c (w : World) : Calls Try.prog 17 #[] w fun e w' => e = .returned (.bool true) ∧ Below w.heap.size w w' := by
  have hC3 := Cm.Calm.refl w
  have V1 := Lib.hid fun W => val_c (s := ⟨#[192, 0, 0, 0, 0, 0, 0, 0]⟩) (u := 4611686018427387904) (o := true) (by decide +kernel) W
  have V2 := Lib.hid fun W => val_c (s := ⟨#[255, 248, 0, 0, 0, 0, 0, 0]⟩) (u := 9221120237041090560) (o := true) (by decide +kernel) W
  have V3 := Lib.hid fun W => val_c (s := ⟨#[127, 255, 255, 255, 255, 255, 255, 255]⟩) (u := 0) (o := false) (by decide +kernel) W
  have N1 := Lib.hid fun W => of_same (nan_c W)
  have K1 := Lib.hid fun W => ky_c (b := 9221120237041090561) (t := ⟨#[255, 248, 0, 0, 0, 0, 0, 0]⟩) (by decide) (by decide +kernel) W
  have K2 := Lib.hid fun W => ky_c (b := 0) (t := ⟨#[128, 0, 0, 0, 0, 0, 0, 0]⟩) (by decide) (by decide +kernel) W
  have K3 := Lib.hid fun W => ky_c (b := 9223372036854775808) (t := ⟨#[128, 0, 0, 0, 0, 0, 0, 0]⟩) (by decide) (by decide +kernel) W
  have I1 := Lib.hid fun W => of_same (inf_neg W)
  have I2 := Lib.hid fun W => of_same (inf_pos W)
  have L1 := Lib.hid fun W => ls_c (a := 18442240474082181120) (b := 13830554455654793216) (o := true) (by decide +kernel) W
  have L2 := Lib.hid fun W => ls_c (a := 9218868437227405312) (b := 9221120237041090561) (o := true) (by decide +kernel) W
  have L3 := Lib.hid fun W => ls_c (a := 9221120237041090561) (b := 9221120237041090561) (o := false) (by decide +kernel) W
  have S1 := Lib.hid fun W => sm_c (a := 9221120237041090561) (b := 9221120237041090561) (o := true) (by decide +kernel) W
  have S2 := Lib.hid fun W => sm_c (a := 0) (b := 9223372036854775808) (o := true) (by decide +kernel) W
  have e1 : (FloatKind.f64.format.order 4611686018427387904 4611686018427387904 == some .eq) = true := by decide +kernel
  have e2 : (FloatKind.f64.format.order 9221120237041090560 9221120237041090560 != some .eq) = true := by decide +kernel
  have e3 : ∀ W, (Op.unary .neg (.float .f64 0)).run Try.prog W = .ok (.float .f64 9223372036854775808) W := fun W => by kernel_rfl
  go_enter Try.func17, Try.ntmps17
  go_wp2_with fail
  repeat ((first | with_reducible refine (Calm.call hC3 (V1.out _)).mono ?_ | with_reducible refine (Calm.call hC3 (V2.out _)).mono ?_ | with_reducible refine (Calm.call hC3 (V3.out _)).mono ?_ | with_reducible refine (Calm.call hC3 (N1.out _)).mono ?_ | with_reducible refine (Calm.call hC3 (K1.out _)).mono ?_ | with_reducible refine (Calm.call hC3 (K2.out _)).mono ?_ | with_reducible refine (Calm.call hC3 (K3.out _)).mono ?_ | with_reducible refine (Calm.call hC3 (I1.out _)).mono ?_ | with_reducible refine (Calm.call hC3 (I2.out _)).mono ?_ | with_reducible refine (Calm.call hC3 (L1.out _)).mono ?_ | with_reducible refine (Calm.call hC3 (L2.out _)).mono ?_ | with_reducible refine (Calm.call hC3 (L3.out _)).mono ?_ | with_reducible refine (Calm.call hC3 (S1.out _)).mono ?_ | with_reducible refine (Calm.call hC3 (S2.out _)).mono ?_); rintro e w9 ⟨rfl, hC9⟩; clear hC3; have hC3 := hC9; clear hC9; go_wp2_with fail)
  go_ret
  exact ⟨rfl, hC3.below⟩
end Go.Proofs.Ytbphehijikdkjaa.FltW
