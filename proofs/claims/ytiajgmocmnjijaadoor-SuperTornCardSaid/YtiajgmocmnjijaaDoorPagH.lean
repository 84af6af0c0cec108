/-
  By hand for the pages: the reference's Of, and strings.Repeat (the shelf's contract laid at this program: PagK).
-/
import Derived.Test.YtiajgmocmnjijaaDoorSumH
import Derived.Test.YtiajgmocmnjijaaDoorPagK
namespace Go.Proofs.YtiajgmocmnjijaaDoor.PagH
open Go.RowKit Go.Proofs.YtiajgmocmnjijaaDoorW.PrintWords Go.Proofs.YtiajgmocmnjijaaDoor.SumH
set_option linter.unusedVariables false
/-- Copies of a text. -/
def repB (s : ByteArray) (c : Nat) : ByteArray := ⟨(Lib.repeatL s.data.toList c).toArray⟩
def rep_f (s : ByteArray) (c : Int) : Option ByteArray := if 0 ≤ c ∧ c ≤ 9223372036854775807 ∧ s.size * c.toNat ≤ 140737488355328 then some (repB s c.toNat) else none
theorem rep_calls (a0 : ByteArray) (a1 : Int) (r : ByteArray) (w : World) (h : rep_f a0 a1 = some r) : Calls Tryd.prog 28 #[.string a0, .int .i64 a1] w fun e w' => e = .returned (.string r) ∧ Below w.heap.size w w' := by
  unfold rep_f at h
  split at h
  · rename_i hs
    obtain rfl := Option.some.inj h
    obtain ⟨n, rfl⟩ := Int.eq_ofNat_of_zero_le hs.1
    have h2 := hs.2.2
    rw [Int.toNat_natCast] at h2 ⊢
    exact Tryd.strings_Repeat a0 n w (by omega) h2
  · cases h
end Go.Proofs.YtiajgmocmnjijaaDoor.PagH
