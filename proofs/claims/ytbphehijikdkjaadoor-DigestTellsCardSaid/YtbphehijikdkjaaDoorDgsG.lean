/-
  The struct of words, a block and a length, as a row hands it: opened.
-/
import Derived.Test.YtbphehijikdkjaaDoorDgsF
import Derived.OpenShut
import Derived.ProofKit
import Derived.Deep.Strs
import Derived.Lib.SmallJoins
import Derived.ChangeOld
namespace Go.Proofs.YtbphehijikdkjaaDoor.DgsG
open Go.ChangeShapes Go.WideShapes Go.ChangeAt Go.RowKit Go.Proofs.YtbphehijikdkjaaDoor.DgsP Go.Proofs.YtbphehijikdkjaaDoor.DgsS Go.Proofs.YtbphehijikdkjaaDoor.DgsF
set_option linter.unusedVariables false
section
variable {H : Type} {enc : TypeId × Value → H} {P : Program} {w : World} {base : Nat} {sp : Nat → Bool} {held : Bool} {fuel : Nat}
theorem open_arr_ints {t e : TypeId} {n : Nat} {k : IntKind} {cs : List Value} {x : DataW H × List MemPlace} (ht : P.underlying t = some (.array n e)) (he : P.underlying e = some (.int k)) (hce : P.cellsOf e = 1) (hct : P.cellsOf t = n)
    (h : DataW.trod enc P w base sp held fuel t cs = some x) : ∃ zs : List Int, cs = zs.map (Value.int k) ∧ zs.length = n ∧ ∀ z ∈ zs, (Lit.int k z).wf = true := by
  obtain ⟨xs, m, _, _, hl, hxl, hf⟩ := DataW.trod_array ht h
  rw [hct] at hl
  have hone : ∀ i, i < n → ∃ z : Int, cs[i]? = some (.int k z) ∧ (Lit.int k z).wf = true := by
    intro i hi
    have h1 := hf i hi
    rw [hce, Nat.mul_one, List.getElem?_eq_getElem (by omega)] at h1
    obtain ⟨z, hc, _, hw⟩ := DataW.trod_int he h1
    refine ⟨z, ?_, hw⟩
    have := congrArg (·[0]?) hc
    simpa [List.getElem?_take, List.getElem?_drop] using this
  refine ⟨cs.map (fun v => match v with | .int _ z => z | _ => 0), ?_, by simp [hl], ?_⟩
  · apply List.ext_getElem?
    intro i
    by_cases hi : i < n
    · obtain ⟨z, hz, _⟩ := hone i hi
      simp [hz]
    · rw [List.getElem?_eq_none (by omega), List.getElem?_eq_none (by simp; omega)]
  · intro z hz
    simp only [List.mem_map] at hz
    obtain ⟨v, hv, rfl⟩ := hz
    obtain ⟨i, hi, rfl⟩ := List.getElem_of_mem hv
    obtain ⟨z, hz, hw⟩ := hone i (by omega)
    rw [List.getElem?_eq_getElem hi] at hz
    rw [Option.some.inj hz]
    exact hw
end
theorem wf_nat {k : IntKind} (m : Nat) (h0 : k.min = 0) (hm : k.max < (m : Int)) (zs : List Int) (h : ∀ z ∈ zs, (Lit.int k z).wf = true) : zs.map (Value.int k) = (vals k (zs.map Int.toNat)).toList ∧ ∀ x ∈ zs.map Int.toNat, x < m := by
  have hb : ∀ z ∈ zs, 0 ≤ z ∧ z < (m : Int) := by
    intro z hz
    have := h z hz
    simp [Lit.wf, h0] at this
    omega
  constructor
  · simp only [vals, List.map_map]
    apply List.map_congr_left
    intro z hz
    have := hb z hz
    show Value.int k z = Value.int k ((z.toNat : Nat) : Int)
    congr 1
    omega
  · intro x hx
    simp only [List.mem_map] at hx
    obtain ⟨z, hz, rfl⟩ := hx
    have := hb z hz
    omega
theorem open_asked {H : Type} {enc : TypeId × Value → H} {W : World} {base b0 : Nat} {sp : Nat → Bool} {held : Bool} {r : Reach} {v : Value} {d : DataW H} {p : List MemPlace}
    (hv : Value.okWide Tryd.prog W r b0 26 v) (h : DataW.Trod enc Tryd.prog W base sp held 26 v d p) :
    ∃ (hs bs : List Nat) (N : Int), v = .agg (asked hs bs N) ∧ hs.length = 8 ∧ (∀ x ∈ hs, x < M) ∧ bs.length = 64 ∧ (∀ x ∈ bs, x < 256) ∧ (Lit.int .i64 N).wf = true := by
  obtain ⟨cs, rfl, hsz⟩ := okWide_struct Tryd.underlying26 hv
  obtain ⟨fuel, hf⟩ := h
  obtain ⟨y0, y1, y2, n, _, hlen, h0, h1, h2⟩ := Go.Deep.trod_struct3 Tryd.underlying26 hf
  simp only [Value.cells] at hlen h0 h1 h2
  have c0 : Tryd.prog.cellsOf 23 = 8 := by kernel_rfl
  have c1 : Tryd.prog.cellsOf 24 = 64 := by kernel_rfl
  have c2 : Tryd.prog.cellsOf 3 = 1 := by kernel_rfl
  have c3 : Tryd.prog.cellsOf 26 = 73 := by kernel_rfl
  have e8 : Tryd.prog.cellsOf 5 = 1 := by kernel_rfl
  obtain ⟨z0, q0, l0, w0⟩ := open_arr_ints Tryd.underlying23 Tryd.underlying22 cells1 c0 h0
  obtain ⟨z1, q1, l1, w1⟩ := open_arr_ints Tryd.underlying24 Tryd.underlying5 e8 c1 h1
  obtain ⟨N, q2, _, w2⟩ := DataW.trod_int Tryd.underlying3 h2
  obtain ⟨m0, b0'⟩ := wf_nat 4294967296 rfl (by decide) z0 w0
  obtain ⟨m1, b1'⟩ := wf_nat 256 rfl (by decide) z1 w1
  refine ⟨z0.map Int.toNat, z1.map Int.toNat, N, ?_, by simp [l0], b0', by simp [l1], b1', w2⟩
  congr 1
  rw [← Array.toList_inj]
  rw [c3] at hlen
  rw [c0] at q0
  rw [c1] at q1
  rw [c2] at q2
  simp only [List.drop_zero] at q0
  have hcs : cs.toList = cs.toList.take 8 ++ (cs.toList.drop 8).take 64 ++ (cs.toList.drop 72).take 1 := by
    rw [← List.take_add, ← List.take_add]
    exact (List.take_of_length_le (by omega)).symm
  rw [hcs, q0, q1, q2, m0, m1]
  simp [asked]
theorem walk (s : ByteArray) (hs bs : List Nat) (N : Int) (w : World) (hG : DgsB.Glob w) (_ : s.size ≤ 140737488351232) (hl : hs.length = 8) (hh : ∀ x ∈ hs, x < M) (bl : bs.length = 64) (hb : ∀ x ∈ bs, x < 256) (hN : (Lit.int .i64 N).wf = true) :
    Calls Tryd.prog 3 #[.string s, .agg (asked hs bs N)] w fun e w' => e = .returned (.bool true) ∧ Below w.heap.size w w' := DgsF.walk s hs bs N w hG hl hh bl hb hN
end Go.Proofs.YtbphehijikdkjaaDoor.DgsG
