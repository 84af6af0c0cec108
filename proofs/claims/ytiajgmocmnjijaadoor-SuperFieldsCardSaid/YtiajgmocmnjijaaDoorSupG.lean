/-
  A struct of six whole numbers and an array of six bytes as a row hands them: opened.
-/
import Derived.Test.YtiajgmocmnjijaaDoorPagA
namespace Go.Proofs.YtiajgmocmnjijaaDoor.PagG
open Go.ChangeShapes Go.WideShapes Go.ChangeAt Go.RowKit
set_option linter.unusedVariables false
theorem open_super {H : Type} {enc : TypeId × Value → H} {W : World} {base b0 : Nat} {sp : Nat → Bool} {held : Bool} {r : Reach} {v : Value} {d : DataW H} {p : List MemPlace}
    (hv : Value.okWide Tryd.prog W r b0 43 v) (h : DataW.Trod enc Tryd.prog W base sp held 43 v d p) :
    ∃ (a b c e f g : Int), v = .agg #[.int .i64 a, .int .i64 b, .int .i64 c, .int .i64 e, .int .i64 f, .int .i64 g] := by
  obtain ⟨cs, rfl, hsz⟩ := okWide_struct Tryd.underlying43 hv
  obtain ⟨fuel, hf⟩ := h
  obtain ⟨xs, n, _, _, hl, hlen, hfs⟩ := DataW.trod_struct Tryd.underlying43 hf
  simp only [Value.cells] at hl hfs
  have c1 : Tryd.prog.cellsOf 3 = 1 := by kernel_rfl
  have c6 : Tryd.prog.cellsOf 43 = 6 := by kernel_rfl
  rw [c6] at hl
  match hcs : cs.toList, hl, xs, hlen with
  | [v0, v1, v2, v3, v4, v5], _, [y0, y1, y2, y3, y4, y5], _ =>
    rw [hcs] at hfs
    obtain ⟨x0, q0, _, _⟩ := DataW.trod_int Tryd.underlying3 (hfs 0 _ rfl)
    obtain ⟨x1, q1, _, _⟩ := DataW.trod_int Tryd.underlying3 (hfs 1 _ rfl)
    obtain ⟨x2, q2, _, _⟩ := DataW.trod_int Tryd.underlying3 (hfs 2 _ rfl)
    obtain ⟨x3, q3, _, _⟩ := DataW.trod_int Tryd.underlying3 (hfs 3 _ rfl)
    obtain ⟨x4, q4, _, _⟩ := DataW.trod_int Tryd.underlying3 (hfs 4 _ rfl)
    obtain ⟨x5, q5, _, _⟩ := DataW.trod_int Tryd.underlying3 (hfs 5 _ rfl)
    have p0 : [v0] = [Value.int .i64 x0] := by have h := q0; change ([v0, v1, v2, v3, v4, v5].drop 0).take (Tryd.prog.cellsOf 3) = _ at h; rw [c1] at h; exact h
    have p1 : [v1] = [Value.int .i64 x1] := by have h := q1; change ([v0, v1, v2, v3, v4, v5].drop 1).take (Tryd.prog.cellsOf 3) = _ at h; rw [c1] at h; exact h
    have p2 : [v2] = [Value.int .i64 x2] := by have h := q2; change ([v0, v1, v2, v3, v4, v5].drop 2).take (Tryd.prog.cellsOf 3) = _ at h; rw [c1] at h; exact h
    have p3 : [v3] = [Value.int .i64 x3] := by have h := q3; change ([v0, v1, v2, v3, v4, v5].drop 3).take (Tryd.prog.cellsOf 3) = _ at h; rw [c1] at h; exact h
    have p4 : [v4] = [Value.int .i64 x4] := by have h := q4; change ([v0, v1, v2, v3, v4, v5].drop 4).take (Tryd.prog.cellsOf 3) = _ at h; rw [c1] at h; exact h
    have p5 : [v5] = [Value.int .i64 x5] := by have h := q5; change ([v0, v1, v2, v3, v4, v5].drop 5).take (Tryd.prog.cellsOf 3) = _ at h; rw [c1] at h; exact h
    simp only [List.cons.injEq, and_true] at p0 p1 p2 p3 p4 p5
    subst p0 p1 p2 p3 p4 p5
    refine ⟨x0, x1, x2, x3, x4, x5, ?_⟩
    congr 1
    apply Array.toList_inj.1
    rw [hcs]
end Go.Proofs.YtiajgmocmnjijaaDoor.PagG
