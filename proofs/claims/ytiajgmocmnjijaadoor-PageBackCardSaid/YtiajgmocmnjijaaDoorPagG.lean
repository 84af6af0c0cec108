/-
  Structs of whole numbers and a text, and arrays of whole numbers, as a row hands them: opened.
-/
import Derived.Test.YtiajgmocmnjijaaDoorProg
import Derived.Test.YtiajgmocmnjijaaDoorWWords
import Derived.OpenShut
import Derived.ProofKit
import Derived.Deep.Strs
import Derived.Lib.SmallJoins
import Derived.ChangeOld
import Derived.SizedLaws
namespace Go.Proofs.YtiajgmocmnjijaaDoor.PagG
open Go.ChangeShapes Go.WideShapes Go.ChangeAt Go.RowKit
set_option linter.unusedVariables false
section
variable {H : Type} {enc : TypeId × Value → H} {P : Program} {w : World} {base : Nat} {sp : Nat → Bool} {held : Bool} {fuel : Nat}
theorem open_arr_ints {t e : TypeId} {n : Nat} {k : IntKind} {cs : List Value} {x : DataW H × List MemPlace} (ht : P.underlying t = some (.array n e)) (he : P.underlying e = some (.int k)) (hce : P.cellsOf e = 1) (hct : P.cellsOf t = n)
    (h : DataW.trod enc P w base sp held fuel t cs = some x) : ∃ zs : List Int, cs = zs.map (Value.int k) ∧ zs.length = n ∧ ∀ z ∈ zs, (Lit.int k z).wf = true := by
  obtain ⟨xs, m, _, _, hl, hxl, hf⟩ := DataW.trod_array ht h
  rw [hct] at hl
  have hone : ∀ i, i < n → ∃ z : Int, cs[i]? = some (.int k z) ∧ (Lit.int k z).wf = true := by
    intro i hi
    have h1 := hf i hi
    rw [hce, Nat.mul_one, List.getElem?_eq_getElem (by omega)] at h1
    obtain ⟨z, hc, _, hw⟩ := DataW.trod_int he h1
    refine ⟨z, ?_, hw⟩
    have := congrArg (·[0]?) hc
    simpa [List.getElem?_take, List.getElem?_drop] using this
  refine ⟨cs.map (fun v => match v with | .int _ z => z | _ => 0), ?_, by simp [hl], ?_⟩
  · apply List.ext_getElem?
    intro i
    by_cases hi : i < n
    · obtain ⟨z, hz, _⟩ := hone i hi
      simp [hz]
    · rw [List.getElem?_eq_none (by omega), List.getElem?_eq_none (by simp; omega)]
  · intro z hz
    simp only [List.mem_map] at hz
    obtain ⟨v, hv, rfl⟩ := hz
    obtain ⟨i, hi, rfl⟩ := List.getElem_of_mem hv
    obtain ⟨z, hz, hw⟩ := hone i (by omega)
    rw [List.getElem?_eq_getElem hi] at hz
    rw [Option.some.inj hz]
    exact hw
end
theorem open_page {H : Type} {enc : TypeId × Value → H} {W : World} {base b0 : Nat} {sp : Nat → Bool} {held : Bool} {r : Reach} {v : Value} {d : DataW H} {p : List MemPlace}
    (hv : Value.okWide Tryd.prog W r b0 23 v) (h : DataW.Trod enc Tryd.prog W base sp held 23 v d p) :
    ∃ (a b : Int) (c : ByteArray), v = .agg #[.int .i64 a, .int .i64 b, .string c] ∧ (Lit.int .i64 a).wf = true ∧ (Lit.int .i64 b).wf = true := by
  obtain ⟨cs, rfl, hsz⟩ := okWide_struct Tryd.underlying23 hv
  obtain ⟨fuel, hf⟩ := h
  obtain ⟨y0, y1, y2, n, _, hlen, h0, h1, h2⟩ := Go.Deep.trod_struct3 Tryd.underlying23 hf
  simp only [Value.cells] at hlen h0 h1 h2
  have c0 : Tryd.prog.cellsOf 3 = 1 := by kernel_rfl
  have c1 : Tryd.prog.cellsOf 9 = 1 := by kernel_rfl
  obtain ⟨x0, q0, _, w0⟩ := DataW.trod_int Tryd.underlying3 h0
  obtain ⟨x1, q1, _, w1⟩ := DataW.trod_int Tryd.underlying3 h1
  obtain ⟨x2, q2, _, _⟩ := DataW.trod_string Tryd.underlying9 h2
  rw [c0] at q0 q1
  rw [c1] at q2
  refine ⟨x0, x1, x2, ?_, w0, w1⟩
  congr 1
  have hcl : cs.toList.length = 3 := by
    have c3 : Tryd.prog.cellsOf 23 = 3 := by kernel_rfl
    rw [← c3]; exact hlen
  match hcs : cs.toList, hcl with
  | [v0, v1, v2], _ =>
    rw [hcs] at q0 q1 q2
    simp at q0 q1 q2
    subst q0 q1 q2
    apply Array.toList_inj.1
    rw [hcs]
end Go.Proofs.YtiajgmocmnjijaaDoor.PagG
