/-
  Four bytes compared with none.
-/
import Derived.Test.YtiajgmocmnjijaaDoorProg
import Derived.Test.YtiajgmocmnjijaaDoorWWords
import Derived.Test.YtiajgmocmnjijaaDoorWEqStruct
import Derived.ChangeKeysEq
import Derived.Handy
namespace Go.Proofs.YtiajgmocmnjijaaDoor.PagE
open Go.RowKit
set_option linter.unusedVariables false
theorem eq_u8 (d : Nat) (a b : Int) (w : World) : (Op.equalIn (d + 1) 5 (.int .u8 a) (.int .u8 b)).run Tryd.prog w = .ok (a == b) w := by
  simp [Op.equalIn, go_sem]
theorem eq_items (w : World) (d : Nat) (xs ys : Array Value) (i : Nat) (is : List Nat) (a b : Int) (r : Bool) (ha : xs[i]? = some (.int .u8 a)) (hb : ys[i]? = some (.int .u8 b)) (hr : (Op.eqItems (d + 1) 5 1 xs ys is).run Tryd.prog w = .ok r w) :
    (Op.eqItems (d + 1) 5 1 xs ys (i :: is)).run Tryd.prog w = .ok (a == b && r) w := by
  have hp : Tryd.prog.plainKey 5 = true := by kernel_rfl
  simp only [Op.eqItems, Sem.run_bind, Nat.mul_one, run_part_plain w hp ha, run_part_plain w hp hb, Result.andThen_ok, eq_u8]
  cases h : (a == b)
  · simp
  · simpa using hr
theorem eq4 (w : World) (a b c d : Int) : (Op.equalIn 10000 37 (.agg #[.int .u8 a, .int .u8 b, .int .u8 c, .int .u8 d]) (.agg #[.int .u8 0, .int .u8 0, .int .u8 0, .int .u8 0])).run Tryd.prog w = .ok (a == 0 && (b == 0 && (c == 0 && (d == 0 && true)))) w := by
  have hu := Tryd.underlying37
  obtain ⟨i, hi⟩ := Option.isSome_iff_exists.1 (show (Tryd.prog.info? 5).isSome = true by kernel_rfl)
  have hc : Tryd.prog.cellsOf 5 = 1 := by kernel_rfl
  rw [show (10000 : Nat) = 9999 + 1 from rfl, run_equalIn_array w 9999 _ _ hu hi, hc]
  refine eq_items w 9998 _ _ 0 _ a 0 _ rfl rfl ?_
  refine eq_items w 9998 _ _ 1 _ b 0 _ rfl rfl ?_
  refine eq_items w 9998 _ _ 2 _ c 0 _ rfl rfl ?_
  refine eq_items w 9998 _ _ 3 _ d 0 _ rfl rfl ?_
  simp [Op.eqItems]
end Go.Proofs.YtiajgmocmnjijaaDoor.PagE
