/-
  A slice of roots as an argument.
-/
import Derived.Test.YtbphehijikdkjaaDoorRngE
import Derived.OpenShut
import Derived.ProofKit
import Derived.Deep.Strs
import Derived.Lib.SmallJoins
import Derived.ChangeOld
import Derived.SizedLaws
namespace Go.Proofs.YtbphehijikdkjaaDoor.RngG
open Go.ChangeShapes Go.WideShapes Go.ChangeAt Go.RowKit Go.Proofs.YtbphehijikdkjaaDoor.PRng Go.Proofs.YtbphehijikdkjaaDoorW.PrintWords Go.Proofs.YtbphehijikdkjaaDoorW.PrintMore Go.Proofs.YtbphehijikdkjaaDoor.RngE
set_option linter.unusedVariables false
theorem open_roots {H : Type} {enc : TypeId × Value → H} {W : World} {base : Nat} {sp : Nat → Bool} {held : Bool} {a : Option Addr} {len cap : Nat} {d : DataW H} {p : List MemPlace} {ts : List TypeId} {ds : List (DataW H)} {j : Nat}
    (hsz : (DataW.weightsEach Tryd.prog ts ds).all (· ≤ reachBytes) = true) (ht : ts[j]? = some 36) (hd : ds[j]? = some d)
    (h : DataW.Trod enc Tryd.prog W base sp held 36 (.slice a len cap) d p) :
    ∃ l : List S49, l.length = len ∧ len ≤ cap ∧ len < 4398046511104 ∧ Kd.C k49 W a len l := by
  have hu : Tryd.prog.underlying 36 = some (.slice 49) := Tryd.underlying36
  have ce : Tryd.prog.cellsOf 49 = 3 := by kernel_rfl
  have cs1 : Tryd.prog.cellsOf 9 = 1 := by kernel_rfl
  have ci1 : Tryd.prog.cellsOf 3 = 1 := by kernel_rfl
  have be : Tryd.prog.bytesOf 49 = 32 := by kernel_rfl
  obtain ⟨fuel, hf⟩ := h
  rcases Go.Deep.open_slice hu hf with ⟨hcs, _⟩ | ⟨x, l, c, m, n, D, Pl, hcs, hb, hl, hm, hmm, hx, hread⟩
  · simp [Value.cells] at hcs
    obtain ⟨rfl, rfl, rfl⟩ := hcs
    exact ⟨[], rfl, Nat.le_refl _, by decide, ⟨rfl, by decide, fun h => absurd h (by decide)⟩⟩
  · simp [Value.cells] at hcs
    obtain ⟨rfl, rfl, rfl⟩ := hcs
    have hlm : len ≤ m := by rw [hmm]; split <;> omega
    rw [(Prod.mk.inj hx).1] at hd
    have hw := sized_slice hsz ht hd hu
    rw [be] at hw
    simp only [List.length_map, List.length_range] at hw
    have hr : reachBytes = 140737488351232 := rfl
    have hlt : len < 4398046511104 := by rw [hr] at hw; omega
    have each : ∀ i, i < len → ∃ r : S49, ∀ q u, [Value.string r.f0, Value.int .i64 r.f1, Value.int .i64 r.f2][q]? = some u → W.cell? (x.add (i * 3 + q)) = some u := by
      intro i hi
      obtain ⟨cs', h1, h2⟩ := hread i (by omega)
      rw [ce] at h1
      obtain ⟨_, hlen, hcell⟩ := World.cells?_some h1
      obtain ⟨y0, y1, y2, n', _, _, t0, t1, t2⟩ := Go.Deep.trod_struct3 Tryd.underlying49 h2
      obtain ⟨s, q0, _, _⟩ := DataW.trod_string Tryd.underlying9 t0
      obtain ⟨g, q1, _, _⟩ := DataW.trod_int Tryd.underlying3 t1
      obtain ⟨e, q2, _, _⟩ := DataW.trod_int Tryd.underlying3 t2
      rw [cs1] at q0
      rw [ci1] at q1 q2
      match cs', hlen with
      | [v0, v1, v2], _ =>
        simp at q0 q1 q2
        obtain rfl := q0
        obtain rfl := q1
        obtain rfl := q2
        refine ⟨⟨s, g, e⟩, fun q u hq => ?_⟩
        have hq3 : q < 3 := by
          rcases Nat.lt_or_ge q 3 with h | h
          · exact h
          · rw [List.getElem?_eq_none (by simpa using h)] at hq; cases hq
        have := hcell q hq3
        rw [Go.Deep.add_add] at this
        rw [this]
        exact hq
    have : Inhabited S49 := ⟨z49⟩
    obtain ⟨f, hf'⟩ := Go.Deep.choose_lt each
    refine ⟨(List.range len).map f, by simp, hl, hlt, ⟨by simp, by omega, fun _ => ⟨x, rfl, fun i r hr => ?_⟩⟩⟩
    have hi : i < len := by
      rcases Nat.lt_or_ge i len with h | h
      · exact h
      · rw [List.getElem?_eq_none (by simpa using h)] at hr; cases hr
    simp [hi] at hr
    subst hr
    exact ⟨_, rfl, k49_mk W _, hf' i hi⟩
end Go.Proofs.YtbphehijikdkjaaDoor.RngG
