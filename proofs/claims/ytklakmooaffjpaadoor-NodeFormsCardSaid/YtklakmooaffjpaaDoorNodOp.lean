/-
  An Item as a row hands it: opened.
-/
import Derived.Test.YtklakmooaffjpaaDoorProg
import Derived.Test.YtklakmooaffjpaaDoorPNorx0
import Derived.OpenShut
import Derived.ProofKit
import Derived.Deep.Strs
import Derived.Lib.SmallJoins
import Derived.ChangeOld
import Derived.SizedLaws
namespace Go.Proofs.YtklakmooaffjpaaDoor.NodOp
open Go.ChangeShapes Go.WideShapes Go.ChangeAt Go.RowKit Go.Proofs.YtklakmooaffjpaaDoorW.PrintWords Go.Proofs.YtklakmooaffjpaaDoorW.PrintMore
set_option linter.unusedVariables false
theorem open_item {H : Type} {enc : TypeId × Value → H} {W : World} {base b0 : Nat} {sp : Nat → Bool} {held : Bool} {r : Reach} {v : Value} {d : DataW H} {p : List MemPlace}
    (hv : Value.okWide Tryd.prog W r b0 24 v) (h : DataW.Trod enc Tryd.prog W base sp held 24 v d p) :
    ∃ (a : Int) (b : ByteArray) (c : Bool) (e : ByteArray) (f : Int) (A : Option Addr) (m : Nat) (l : List ByteArray), v = .agg #[.int .i64 a, .string b, .bool c, .string e, .int .i64 f, .slice A l.length m] ∧
      l.length ≤ m ∧ Kd.C Kd.string W A l.length l ∧ (Lit.int .i64 a).wf = true ∧ (Lit.int .i64 f).wf = true := by
  obtain ⟨cs, rfl, hsz⟩ := okWide_struct Tryd.underlying24 hv
  obtain ⟨fuel, hf⟩ := h
  obtain ⟨xs, n, _, _, hl, hlen, hfs⟩ := DataW.trod_struct Tryd.underlying24 hf
  simp only [Value.cells] at hl hfs
  have c1 : Tryd.prog.cellsOf 3 = 1 := by kernel_rfl
  have c2 : Tryd.prog.cellsOf 9 = 1 := by kernel_rfl
  have c3 : Tryd.prog.cellsOf 4 = 1 := by kernel_rfl
  have c4 : Tryd.prog.cellsOf 22 = 1 := by kernel_rfl
  have c6 : Tryd.prog.cellsOf 24 = 6 := by kernel_rfl
  rw [c6] at hl
  match hcs : cs.toList, hl, xs, hlen with
  | [v0, v1, v2, v3, v4, v5], _, [y0, y1, y2, y3, y4, y5], _ =>
    rw [hcs] at hfs
    obtain ⟨x0, q0, _, w0⟩ := DataW.trod_int Tryd.underlying3 (hfs 0 _ rfl)
    obtain ⟨x1, q1, _, _⟩ := DataW.trod_string Tryd.underlying9 (hfs 1 _ rfl)
    obtain ⟨x2, q2, _⟩ := DataW.trod_bool Tryd.underlying4 (hfs 2 _ rfl)
    obtain ⟨x3, q3, _, _⟩ := DataW.trod_string Tryd.underlying9 (hfs 3 _ rfl)
    obtain ⟨x4, q4, _, w4⟩ := DataW.trod_int Tryd.underlying3 (hfs 4 _ rfl)
    have p0 : [v0] = [Value.int .i64 x0] := by have h := q0; change ([v0, v1, v2, v3, v4, v5].drop 0).take (Tryd.prog.cellsOf 3) = _ at h; rw [c1] at h; exact h
    have p1 : [v1] = [Value.string x1] := by have h := q1; change ([v0, v1, v2, v3, v4, v5].drop 1).take (Tryd.prog.cellsOf 9) = _ at h; rw [c2] at h; exact h
    have p2 : [v2] = [Value.bool x2] := by have h := q2; change ([v0, v1, v2, v3, v4, v5].drop 2).take (Tryd.prog.cellsOf 4) = _ at h; rw [c3] at h; exact h
    have p3 : [v3] = [Value.string x3] := by have h := q3; change ([v0, v1, v2, v3, v4, v5].drop 3).take (Tryd.prog.cellsOf 9) = _ at h; rw [c2] at h; exact h
    have p4 : [v4] = [Value.int .i64 x4] := by have h := q4; change ([v0, v1, v2, v3, v4, v5].drop 4).take (Tryd.prog.cellsOf 3) = _ at h; rw [c1] at h; exact h
    have q5 := hfs 5 _ rfl
    change DataW.trod enc Tryd.prog W base sp held n 22 (([v0, v1, v2, v3, v4, v5].drop 5).take (Tryd.prog.cellsOf 22)) = some y5 at q5
    rw [c4] at q5
    change DataW.trod enc Tryd.prog W base sp held n 22 [v5] = some y5 at q5
    simp only [List.cons.injEq, and_true] at p0 p1 p2 p3 p4
    subst p0 p1 p2 p3 p4
    have ha : cs = #[.int .i64 x0, .string x1, .bool x2, .string x3, .int .i64 x4, v5] := Array.toList_inj.1 hcs
    subst ha
    rcases Go.Deep.open_slice1 Tryd.underlying22 c2 q5 with ⟨h5, _⟩ | ⟨x, len, cap, m, n', V, D, Pl, h5, hb, hle, hm, hmm, hx, hread⟩
    · simp only [List.cons.injEq, and_true] at h5
      subst h5
      exact ⟨x0, x1, x2, x3, x4, none, 0, [], rfl, Nat.le_refl _, ⟨rfl, by decide, fun h => absurd h (by decide)⟩, w0, w4⟩
    · simp only [List.cons.injEq, and_true] at h5
      subst h5
      have hlm : len ≤ m := by rw [hmm]; split <;> omega
      have each : ∀ i, i < len → ∃ r : ByteArray, W.cell? (x.add i) = some (.string r) := by
        intro i hi
        obtain ⟨h1, h2⟩ := hread i (by omega)
        obtain ⟨s, q, _, _⟩ := DataW.trod_string Tryd.underlying9 h2
        simp only [List.cons.injEq, and_true] at q
        rw [q] at h1
        exact ⟨s, h1⟩
      have : Inhabited ByteArray := ⟨ByteArray.empty⟩
      obtain ⟨f, hf'⟩ := Go.Deep.choose_lt each
      have hmax : maxLen ≤ 9223372036854775807 := by decide
      refine ⟨x0, x1, x2, x3, x4, some x, cap, (List.range len).map f, ?_, ?_, ⟨?_, ?_, fun _ => ⟨x, rfl, fun i r hr => ?_⟩⟩, w0, w4⟩
      · simp
      · simpa using hle
      · simp
      · simp; omega
      have hi : i < len := by
        rcases Nat.lt_or_ge i len with h | h
        · exact h
        · rw [List.getElem?_eq_none (by simpa using h)] at hr; cases hr
      simp [hi] at hr
      subst hr
      refine ⟨[.string (f i)], rfl, rfl, fun q u hq => ?_⟩
      have hq0 : q = 0 := by
        rcases Nat.lt_or_ge q 1 with h | h
        · omega
        · rw [List.getElem?_eq_none (by simpa using h)] at hq; cases hq
      subst hq0
      simp at hq
      subst hq
      show W.cell? (x.add (i * 1 + 0)) = _
      rw [Nat.mul_one, Nat.add_zero]
      exact hf' i hi
end Go.Proofs.YtklakmooaffjpaaDoor.NodOp
