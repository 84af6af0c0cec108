/-
  A word turned: math/bits.RotateLeft32 and digest.turned, walked by hand.
-/
import Derived.Test.YtbphehijikdkjaaDoorProg
import Derived.Test.YtbphehijikdkjaaDoorCalm
import Derived.Test.YtbphehijikdkjaaDoorDgsP
import Derived.WalkKit
import Derived.Handy
import Derived.WalkLawsBesides
import Derived.WalkSpells
import Derived.Lib.Hide
import Derived.Laws.BitsLemmas
import Derived.Laws.Externs
namespace Go.Proofs.YtbphehijikdkjaaDoor.DgsH
open Go.RowKit Go.Proofs.YtbphehijikdkjaaDoorW.PrintWords Go.Proofs.YtbphehijikdkjaaDoorW.PrintMore Go.Proofs.YtbphehijikdkjaaDoor.Cm Go.Proofs.YtbphehijikdkjaaDoor.Str Go.Proofs.YtbphehijikdkjaaDoor.DgsP
set_option linter.unusedVariables false
theorem turn_by (n : Nat) (hn : 0 < n ∧ n < 32) : bits .and .u64 (IntKind.u64.wrap (-(n : Int))) 31 = ((32 - n : Nat) : Int) := by
  have h : ∀ k : Fin 32, 0 < k.val → bits .and .u64 (IntKind.u64.wrap (-(k.val : Int))) 31 = ((32 - k.val : Nat) : Int) := by decide +kernel
  exact h ⟨n, hn.2⟩ hn.1
set_option maxHeartbeats 1000000 in
theorem rol_c (x n : Nat) (w : World) (hx : x < M) (hn : 0 < n ∧ n < 32) : Calls Tryd.prog 43 #[.int .u32 (x : Int), .int .i64 (-(n : Int))] w fun e w' => e = .returned (.int .u32 (rr x n : Int)) ∧ w' = w := by
  have hs := turn_by n hn
  obtain ⟨s, hse⟩ : ∃ s, s = 32 - n := ⟨_, rfl⟩
  rw [← hse] at hs
  have h1 : 0 < s ∧ s < 32 := by omega
  have h2 : (32 : Int) - (s : Int) = (n : Int) := by omega
  have Hx := Lib.hid hx
  have Hs := Lib.hid hse
  clear hx hse
  go_enter Tryd.func43, Tryd.ntmps43
  go_wp2
  go_ret
  exact ⟨by rw [Hs.out, rot_cast x n Hx.out]; rfl, rfl⟩
theorem turned_c (x n : Nat) (w : World) (hx : x < M) (hn : 0 < n ∧ n < 32) : Calls Tryd.prog 34 #[.int .u32 (x : Int), .int .i64 (n : Int)] w fun e w' => e = .returned (.int .u32 (rr x n : Int)) ∧ w' = w := by
  have C := Lib.hid fun W => rol_c x n W hx hn
  clear hx
  go_enter Tryd.func34, Tryd.ntmps34
  go_wp2_with fail
  refine (C.out _).mono ?_
  rintro e w1 ⟨rfl, rfl⟩
  go_wp2
  go_ret
  exact ⟨rfl, rfl⟩
end Go.Proofs.YtbphehijikdkjaaDoor.DgsH
