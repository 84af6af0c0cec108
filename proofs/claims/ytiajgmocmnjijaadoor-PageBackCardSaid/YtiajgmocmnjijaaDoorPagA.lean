/-
  Arrays of whole numbers as a row hands them: opened.
-/
import Derived.Test.YtiajgmocmnjijaaDoorPagG
namespace Go.Proofs.YtiajgmocmnjijaaDoor.PagG
open Go.ChangeShapes Go.WideShapes Go.ChangeAt Go.RowKit
set_option linter.unusedVariables false
theorem okWide_array {P : Program} {w : World} {r : Reach} {base : Nat} {t e : TypeId} {n : Nat} {v : Value} (ht : P.underlying t = some (.array n e)) (h : Value.okWide P w r base t v) : ∃ cs, v = .agg cs ∧ cs.size = P.cellsOf t := by
  unfold Value.okWide at h
  rw [ht] at h
  obtain ⟨cs, hv, hs, _⟩ := h
  exact ⟨cs, hv, hs⟩
theorem open_arr {H : Type} {enc : TypeId × Value → H} {P : Program} {W : World} {base b0 : Nat} {sp : Nat → Bool} {held : Bool} {r : Reach} {t e : TypeId} {n : Nat} {k : IntKind} {v : Value} {d : DataW H} {p : List MemPlace}
    (ht : P.underlying t = some (.array n e)) (he : P.underlying e = some (.int k)) (hce : P.cellsOf e = 1) (hct : P.cellsOf t = n)
    (hv : Value.okWide P W r b0 t v) (h : DataW.Trod enc P W base sp held t v d p) :
    ∃ zs : List Int, v = .agg (zs.map (Value.int k)).toArray ∧ zs.length = n ∧ ∀ z ∈ zs, (Lit.int k z).wf = true := by
  obtain ⟨cs, rfl, hsz⟩ := okWide_array ht hv
  obtain ⟨fuel, hf⟩ := h
  obtain ⟨zs, hz, hl, hw⟩ := open_arr_ints ht he hce hct hf
  refine ⟨zs, ?_, hl, hw⟩
  congr 1
  apply Array.toList_inj.1
  rw [← hz]; rfl
theorem open_three {H : Type} {enc : TypeId × Value → H} {W : World} {base b0 : Nat} {sp : Nat → Bool} {held : Bool} {r : Reach} {v : Value} {d : DataW H} {p : List MemPlace}
    (hv : Value.okWide Tryd.prog W r b0 36 v) (h : DataW.Trod enc Tryd.prog W base sp held 36 v d p) :
    ∃ (a b c : Int), v = .agg #[.int .i64 a, .int .i64 b, .int .i64 c] := by
  obtain ⟨zs, rfl, hl, _⟩ := open_arr Tryd.underlying36 Tryd.underlying3 (by kernel_rfl) (by kernel_rfl) hv h
  match zs, hl with
  | [a, b, c], _ => exact ⟨a, b, c, rfl⟩
theorem u8_of {z : Int} (h : (Lit.int .u8 z).wf = true) : ∃ y : UInt8, z = (y.toNat : Int) := by
  have hm : IntKind.u8.min ≤ z ∧ z ≤ IntKind.u8.max := by simpa [Lit.wf] using h
  have h0 : 0 ≤ z := hm.1
  have h1 : z ≤ 255 := hm.2
  refine ⟨UInt8.ofNat z.toNat, ?_⟩
  rw [UInt8.toNat_ofNat', Nat.mod_eq_of_lt (by omega)]
  omega
theorem open_four {H : Type} {enc : TypeId × Value → H} {W : World} {base b0 : Nat} {sp : Nat → Bool} {held : Bool} {r : Reach} {v : Value} {d : DataW H} {p : List MemPlace}
    (hv : Value.okWide Tryd.prog W r b0 37 v) (h : DataW.Trod enc Tryd.prog W base sp held 37 v d p) :
    ∃ (a b c e : UInt8), v = .agg #[.int .u8 (a.toNat : Int), .int .u8 (b.toNat : Int), .int .u8 (c.toNat : Int), .int .u8 (e.toNat : Int)] := by
  obtain ⟨zs, rfl, hl, hw⟩ := open_arr Tryd.underlying37 Tryd.underlying5 (by kernel_rfl) (by kernel_rfl) hv h
  match zs, hl, hw with
  | [a, b, c, e], _, hw =>
    obtain ⟨a', rfl⟩ := u8_of (hw a (by simp))
    obtain ⟨b', rfl⟩ := u8_of (hw b (by simp))
    obtain ⟨c', rfl⟩ := u8_of (hw c (by simp))
    obtain ⟨e', rfl⟩ := u8_of (hw e (by simp))
    exact ⟨a', b', c', e', rfl⟩
end Go.Proofs.YtiajgmocmnjijaaDoor.PagG
