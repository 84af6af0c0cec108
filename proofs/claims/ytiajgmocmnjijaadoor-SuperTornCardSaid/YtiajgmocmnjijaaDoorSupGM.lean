import Derived.Test.YtiajgmocmnjijaaDoorProg
import Derived.Test.YtiajgmocmnjijaaDoorWWords
import Derived.OpenShut
import Derived.ProofKit
import Derived.Deep.Strs
import Derived.Lib.SmallJoins
import Derived.ChangeOld
import Derived.SizedLaws
section
/-
  Structs of whole numbers and a text, and arrays of whole numbers, as a row hands them: opened.
-/
namespace Go.Proofs.YtiajgmocmnjijaaDoor.PagG
open Go.ChangeShapes Go.WideShapes Go.ChangeAt Go.RowKit
set_option linter.unusedVariables false
section
variable {H : Type} {enc : TypeId × Value → H} {P : Program} {w : World} {base : Nat} {sp : Nat → Bool} {held : Bool} {fuel : Nat}
theorem open_arr_ints {t e : TypeId} {n : Nat} {k : IntKind} {cs : List Value} {x : DataW H × List MemPlace} (ht : P.underlying t = some (.array n e)) (he : P.underlying e = some (.int k)) (hce : P.cellsOf e = 1) (hct : P.cellsOf t = n)
    (h : DataW.trod enc P w base sp held fuel t cs = some x) : ∃ zs : List Int, cs = zs.map (Value.int k) ∧ zs.length = n ∧ ∀ z ∈ zs, (Lit.int k z).wf = true := by
  obtain ⟨xs, m, _, _, hl, hxl, hf⟩ := DataW.trod_array ht h
  rw [hct] at hl
  have hone : ∀ i, i < n → ∃ z : Int, cs[i]? = some (.int k z) ∧ (Lit.int k z).wf = true := by
    intro i hi
    have h1 := hf i hi
    rw [hce, Nat.mul_one, List.getElem?_eq_getElem (by omega)] at h1
    obtain ⟨z, hc, _, hw⟩ := DataW.trod_int he h1
    refine ⟨z, ?_, hw⟩
    have := congrArg (·[0]?) hc
    simpa [List.getElem?_take, List.getElem?_drop] using this
  refine ⟨cs.map (fun v => match v with | .int _ z => z | _ => 0), ?_, by simp [hl], ?_⟩
  · apply List.ext_getElem?
    intro i
    by_cases hi : i < n
    · obtain ⟨z, hz, _⟩ := hone i hi
      simp [hz]
    · rw [List.getElem?_eq_none (by omega), List.getElem?_eq_none (by simp; omega)]
  · intro z hz
    simp only [List.mem_map] at hz
    obtain ⟨v, hv, rfl⟩ := hz
    obtain ⟨i, hi, rfl⟩ := List.getElem_of_mem hv
    obtain ⟨z, hz, hw⟩ := hone i (by omega)
    rw [List.getElem?_eq_getElem hi] at hz
    rw [Option.some.inj hz]
    exact hw
end
end Go.Proofs.YtiajgmocmnjijaaDoor.PagG
end

section
/-
  Arrays of whole numbers as a row hands them: opened.
-/
namespace Go.Proofs.YtiajgmocmnjijaaDoor.PagG
open Go.ChangeShapes Go.WideShapes Go.ChangeAt Go.RowKit
set_option linter.unusedVariables false
theorem okWide_array {P : Program} {w : World} {r : Reach} {base : Nat} {t e : TypeId} {n : Nat} {v : Value} (ht : P.underlying t = some (.array n e)) (h : Value.okWide P w r base t v) : ∃ cs, v = .agg cs ∧ cs.size = P.cellsOf t := by
  unfold Value.okWide at h
  rw [ht] at h
  obtain ⟨cs, hv, hs, _⟩ := h
  exact ⟨cs, hv, hs⟩
theorem open_arr {H : Type} {enc : TypeId × Value → H} {P : Program} {W : World} {base b0 : Nat} {sp : Nat → Bool} {held : Bool} {r : Reach} {t e : TypeId} {n : Nat} {k : IntKind} {v : Value} {d : DataW H} {p : List MemPlace}
    (ht : P.underlying t = some (.array n e)) (he : P.underlying e = some (.int k)) (hce : P.cellsOf e = 1) (hct : P.cellsOf t = n)
    (hv : Value.okWide P W r b0 t v) (h : DataW.Trod enc P W base sp held t v d p) :
    ∃ zs : List Int, v = .agg (zs.map (Value.int k)).toArray ∧ zs.length = n ∧ ∀ z ∈ zs, (Lit.int k z).wf = true := by
  obtain ⟨cs, rfl, hsz⟩ := okWide_array ht hv
  obtain ⟨fuel, hf⟩ := h
  obtain ⟨zs, hz, hl, hw⟩ := open_arr_ints ht he hce hct hf
  refine ⟨zs, ?_, hl, hw⟩
  congr 1
  apply Array.toList_inj.1
  rw [← hz]; rfl
theorem u8_of {z : Int} (h : (Lit.int .u8 z).wf = true) : ∃ y : UInt8, z = (y.toNat : Int) := by
  have hm : IntKind.u8.min ≤ z ∧ z ≤ IntKind.u8.max := by simpa [Lit.wf] using h
  have h0 : 0 ≤ z := hm.1
  have h1 : z ≤ 255 := hm.2
  refine ⟨UInt8.ofNat z.toNat, ?_⟩
  rw [UInt8.toNat_ofNat', Nat.mod_eq_of_lt (by omega)]
  omega
end Go.Proofs.YtiajgmocmnjijaaDoor.PagG
end

section
/-
  A struct of six whole numbers and an array of six bytes as a row hands them: opened.
-/
namespace Go.Proofs.YtiajgmocmnjijaaDoor.PagG
open Go.ChangeShapes Go.WideShapes Go.ChangeAt Go.RowKit
set_option linter.unusedVariables false
theorem open_six {H : Type} {enc : TypeId × Value → H} {W : World} {base b0 : Nat} {sp : Nat → Bool} {held : Bool} {r : Reach} {v : Value} {d : DataW H} {p : List MemPlace}
    (hv : Value.okWide Tryd.prog W r b0 57 v) (h : DataW.Trod enc Tryd.prog W base sp held 57 v d p) :
    ∃ (a b c e f g : UInt8), v = .agg #[.int .u8 (a.toNat : Int), .int .u8 (b.toNat : Int), .int .u8 (c.toNat : Int), .int .u8 (e.toNat : Int), .int .u8 (f.toNat : Int), .int .u8 (g.toNat : Int)] := by
  obtain ⟨zs, rfl, hl, hw⟩ := open_arr Tryd.underlying57 Tryd.underlying5 (by kernel_rfl) (by kernel_rfl) hv h
  match zs, hl, hw with
  | [a, b, c, e, f, g], _, hw =>
    obtain ⟨a', rfl⟩ := u8_of (hw a (by simp))
    obtain ⟨b', rfl⟩ := u8_of (hw b (by simp))
    obtain ⟨c', rfl⟩ := u8_of (hw c (by simp))
    obtain ⟨e', rfl⟩ := u8_of (hw e (by simp))
    obtain ⟨f', rfl⟩ := u8_of (hw f (by simp))
    obtain ⟨g', rfl⟩ := u8_of (hw g (by simp))
    exact ⟨a', b', c', e', f', g', rfl⟩
theorem open_super {H : Type} {enc : TypeId × Value → H} {W : World} {base b0 : Nat} {sp : Nat → Bool} {held : Bool} {r : Reach} {v : Value} {d : DataW H} {p : List MemPlace}
    (hv : Value.okWide Tryd.prog W r b0 43 v) (h : DataW.Trod enc Tryd.prog W base sp held 43 v d p) :
    ∃ (a b c e f g : Int), v = .agg #[.int .i64 a, .int .i64 b, .int .i64 c, .int .i64 e, .int .i64 f, .int .i64 g] := by
  obtain ⟨cs, rfl, hsz⟩ := okWide_struct Tryd.underlying43 hv
  obtain ⟨fuel, hf⟩ := h
  obtain ⟨xs, n, _, _, hl, hlen, hfs⟩ := DataW.trod_struct Tryd.underlying43 hf
  simp only [Value.cells] at hl hfs
  have c1 : Tryd.prog.cellsOf 3 = 1 := by kernel_rfl
  have c6 : Tryd.prog.cellsOf 43 = 6 := by kernel_rfl
  rw [c6] at hl
  match hcs : cs.toList, hl, xs, hlen with
  | [v0, v1, v2, v3, v4, v5], _, [y0, y1, y2, y3, y4, y5], _ =>
    rw [hcs] at hfs
    obtain ⟨x0, q0, _, _⟩ := DataW.trod_int Tryd.underlying3 (hfs 0 _ rfl)
    obtain ⟨x1, q1, _, _⟩ := DataW.trod_int Tryd.underlying3 (hfs 1 _ rfl)
    obtain ⟨x2, q2, _, _⟩ := DataW.trod_int Tryd.underlying3 (hfs 2 _ rfl)
    obtain ⟨x3, q3, _, _⟩ := DataW.trod_int Tryd.underlying3 (hfs 3 _ rfl)
    obtain ⟨x4, q4, _, _⟩ := DataW.trod_int Tryd.underlying3 (hfs 4 _ rfl)
    obtain ⟨x5, q5, _, _⟩ := DataW.trod_int Tryd.underlying3 (hfs 5 _ rfl)
    have p0 : [v0] = [Value.int .i64 x0] := by have h := q0; change ([v0, v1, v2, v3, v4, v5].drop 0).take (Tryd.prog.cellsOf 3) = _ at h; rw [c1] at h; exact h
    have p1 : [v1] = [Value.int .i64 x1] := by have h := q1; change ([v0, v1, v2, v3, v4, v5].drop 1).take (Tryd.prog.cellsOf 3) = _ at h; rw [c1] at h; exact h
    have p2 : [v2] = [Value.int .i64 x2] := by have h := q2; change ([v0, v1, v2, v3, v4, v5].drop 2).take (Tryd.prog.cellsOf 3) = _ at h; rw [c1] at h; exact h
    have p3 : [v3] = [Value.int .i64 x3] := by have h := q3; change ([v0, v1, v2, v3, v4, v5].drop 3).take (Tryd.prog.cellsOf 3) = _ at h; rw [c1] at h; exact h
    have p4 : [v4] = [Value.int .i64 x4] := by have h := q4; change ([v0, v1, v2, v3, v4, v5].drop 4).take (Tryd.prog.cellsOf 3) = _ at h; rw [c1] at h; exact h
    have p5 : [v5] = [Value.int .i64 x5] := by have h := q5; change ([v0, v1, v2, v3, v4, v5].drop 5).take (Tryd.prog.cellsOf 3) = _ at h; rw [c1] at h; exact h
    simp only [List.cons.injEq, and_true] at p0 p1 p2 p3 p4 p5
    subst p0 p1 p2 p3 p4 p5
    refine ⟨x0, x1, x2, x3, x4, x5, ?_⟩
    congr 1
    apply Array.toList_inj.1
    rw [hcs]
end Go.Proofs.YtiajgmocmnjijaaDoor.PagG
end
