import Derived.Test.YtbmhfmkfkdbmdaaProg
import Derived.Test.YtbmhfmkfkdbmdaaCalm
import Derived.OpenShut
import Derived.ProofKit
import Derived.Deep.Strs
import Derived.Lib.SmallJoins
import Derived.ChangeOld
import Derived.SizedLaws
import Derived.Test.YtbmhfmkfkdbmdaaDskQ
import Derived.Test.YtbmhfmkfkdbmdaaDsk4
section
/-
  A slice of pairs of bytes as a row hands it: opened.
-/
namespace Go.Proofs.Ytbmhfmkfkdbmdaa.DskOq
open Go.ChangeShapes Go.WideShapes Go.ChangeAt Go.RowKit Go.Proofs.YtbmhfmkfkdbmdaaW.PrintWords Go.Proofs.YtbmhfmkfkdbmdaaW.PrintMore
set_option linter.unusedVariables false
theorem u8_range {z : Int} (h : (Lit.int .u8 z).wf = true) : 0 ≤ z ∧ z < 256 := by
  have hm : IntKind.u8.min ≤ z ∧ z ≤ IntKind.u8.max := by simpa [Lit.wf] using h
  have h0 : 0 ≤ z := hm.1
  have h1 : z ≤ 255 := hm.2
  omega
theorem cell_lt {w : World} {b o : Nat} {v : Value} (h : w.cell? ⟨b, o, none⟩ = some v) : b < w.heap.size := by
  rcases Nat.lt_or_ge b w.heap.size with h' | h'
  · exact h'
  · have : w.heap[b]? = none := Array.getElem?_eq_none h'
    simp [World.cell?, this] at h
set_option maxRecDepth 100000 in
theorem open_pairs {H : Type} {enc : TypeId × Value → H} {W : World} {base : Nat} {sp : Nat → Bool} {held : Bool} {a : Option Addr} {len cap : Nat} {d : DataW H} {p : List MemPlace} {ts : List TypeId} {ds : List (DataW H)} {j : Nat}
    (hsz : (DataW.weightsEach Try.prog ts ds).all (· ≤ reachBytes) = true) (ht : ts[j]? = some 22) (hd : ds[j]? = some d)
    (h : DataW.Trod enc Try.prog W base sp held 22 (.slice a len cap) d p) :
    ∃ z : List (Int × Int), z.length = len ∧ len ≤ cap ∧ (0 < len → ∃ b o, a = some ⟨b, o, none⟩ ∧ b < W.heap.size ∧ ∀ j p, z[j]? = some p → W.cell? ⟨b, o + j * 2, none⟩ = some (.int .u8 p.1) ∧ W.cell? ⟨b, o + j * 2 + 1, none⟩ = some (.int .u8 p.2)) ∧ ∀ p ∈ z, 0 ≤ p.1 ∧ p.1 < 256 ∧ 0 ≤ p.2 ∧ p.2 < 256 := by
  have hu : Try.prog.underlying 22 = some (.slice 32) := Try.underlying22
  have ce : Try.prog.cellsOf 32 = 2 := by kernel_rfl
  have c1 : Try.prog.cellsOf 5 = 1 := by kernel_rfl
  obtain ⟨fuel, hf⟩ := h
  rcases Go.Deep.open_slice hu hf with ⟨hcs, _⟩ | ⟨x, l, c, m, n, D, Pl, hcs, hb, hl, hm, hmm, hx, hread⟩
  · simp [Value.cells] at hcs
    obtain ⟨rfl, rfl, rfl⟩ := hcs
    exact ⟨[], rfl, Nat.le_refl _, fun h => absurd h (by decide), fun _ h => nomatch h⟩
  · simp [Value.cells] at hcs
    obtain ⟨rfl, rfl, rfl⟩ := hcs
    have hlm : len ≤ m := by rw [hmm]; split <;> omega
    have each : ∀ i, i < len → ∃ r : Int × Int, (W.cell? (x.add (i * 2)) = some (.int .u8 r.1) ∧ W.cell? (x.add (i * 2 + 1)) = some (.int .u8 r.2)) ∧ 0 ≤ r.1 ∧ r.1 < 256 ∧ 0 ≤ r.2 ∧ r.2 < 256 := by
      intro i hi
      obtain ⟨cs', h1, h2⟩ := hread i (by omega)
      rw [ce] at h1
      obtain ⟨_, hlen, hcell⟩ := World.cells?_some h1
      obtain ⟨xs, m', _, _, _, hxs, hel⟩ := DataW.trod_array Try.underlying32 h2
      match cs', hlen, xs, hxs with
      | [v0, v1], _, [y0, y1], _ =>
        have e0 := hel 0 (by decide)
        have e1 := hel 1 (by decide)
        rw [c1] at e0 e1
        obtain ⟨z0, q0, _, w0⟩ := DataW.trod_int Try.underlying5 e0
        obtain ⟨z1, q1, _, w1⟩ := DataW.trod_int Try.underlying5 e1
        have p0 : [v0] = [Value.int .u8 z0] := q0
        have p1 : [v1] = [Value.int .u8 z1] := q1
        simp only [List.cons.injEq, and_true] at p0 p1
        subst p0 p1
        have k0 := hcell 0 (by decide)
        have k1 := hcell 1 (by decide)
        rw [Go.Deep.add_add] at k0 k1
        have r0 := u8_range w0
        have r1 := u8_range w1
        exact ⟨(z0, z1), ⟨k0, k1⟩, r0.1, r0.2, r1.1, r1.2⟩
    have : Inhabited (Int × Int) := ⟨(0, 0)⟩
    obtain ⟨f, hf'⟩ := Go.Deep.choose_lt each
    refine ⟨(List.range len).map f, by simp, hl, fun h0 => ?_, fun p hp => ?_⟩
    · obtain ⟨b, off, spot⟩ := x
      have hspot : spot = none := by simpa [Addr.add] using World.cell?_spot (hf' 0 h0).1.1
      subst hspot
      refine ⟨b, off, rfl, ?_, fun j p hp => ?_⟩
      · have := (hf' 0 h0).1.1
        rw [Go.WideShapes.add_plain] at this
        exact cell_lt this
      · have hj : j < len := by
          rcases Nat.lt_or_ge j len with h | h
          · exact h
          · rw [List.getElem?_eq_none (by simpa using h)] at hp; cases hp
        simp [hj] at hp
        subst hp
        have := (hf' j hj).1
        rw [Go.WideShapes.add_plain, Go.WideShapes.add_plain] at this
        exact this
    · simp only [List.mem_map, List.mem_range] at hp
      obtain ⟨i, hi, rfl⟩ := hp
      exact (hf' i hi).2
end Go.Proofs.Ytbmhfmkfkdbmdaa.DskOq
end

section
/-
  A slice of bytes as a row hands it.
-/
namespace Go.Proofs.Ytbmhfmkfkdbmdaa.DskOr
open Go.RowKit Go.Proofs.YtbmhfmkfkdbmdaaW.PrintWords Go.Proofs.YtbmhfmkfkdbmdaaW.PrintMore
set_option linter.unusedVariables false
theorem open_bytes {W : World} {a : Option Addr} {len cap : Nat} {zs : List Int}
    (h : (a = none ∧ len = 0 ∧ cap = 0 ∧ zs = []) ∨ ∃ x, a = some x ∧ len ≤ cap ∧ cap ≤ maxLen ∧ zs.length = cap ∧ (∀ i, i < zs.length → W.cell? (x.add i) = some (.int .u8 (zs.getD i 0))) ∧ ∀ n ∈ zs, (Lit.int .u8 n).wf = true) :
    ∃ l : List Int, l.length = len ∧ Kd.C (Kd.int .u8) W a l.length l ∧ (∀ c ∈ l, 0 ≤ c ∧ c < 256) ∧ (0 < l.length → ∃ b o, a = some ⟨b, o, none⟩ ∧ b < W.heap.size ∧ ∀ j c, l[j]? = some c → W.cell? ⟨b, o + j, none⟩ = some (.int .u8 c)) := by
  rcases h with ⟨rfl, rfl, rfl, rfl⟩ | ⟨x, rfl, h1, h2, h3, h4, h5⟩
  · exact ⟨[], rfl, ⟨rfl, by decide, fun h => by simp at h⟩, fun n hn => (nomatch hn), fun h => by cases h⟩
  · have hln : (zs.take len).length = len := by rw [List.length_take]; omega
    have key : ∀ (j : Nat) p, (zs.take len)[j]? = some p → W.cell? (x.add j) = some (.int .u8 p) := by
      intro j p hj
      obtain ⟨hjl, hjv⟩ := List.getElem?_eq_some_iff.1 hj
      rw [hln] at hjl
      rw [h4 j (by omega)]
      rw [List.getElem_take] at hjv
      rw [← hjv]
      simp [List.getD_eq_getElem?_getD, List.getElem?_eq_getElem (show j < zs.length by omega)]
    refine ⟨zs.take len, hln, ⟨rfl, by simp only [maxLen] at h2; omega, fun _ => ⟨x, rfl, fun j p hj => ⟨[.int .u8 p], rfl, rfl, fun i u hi => ?_⟩⟩⟩, fun n hn => DskOq.u8_range (h5 n (List.mem_of_mem_take hn)), fun h0 => ?_⟩
    · obtain ⟨rfl, rfl⟩ : i = 0 ∧ u = .int .u8 p := by
        cases i with
        | zero => exact ⟨rfl, by simpa using hi.symm⟩
        | succ n => simp at hi
      rw [show j * (Kd.int .u8).sz + 0 = j from Nat.mul_one j]
      exact key j p hj
    · obtain ⟨b, off, spot⟩ := x
      obtain ⟨v, hv⟩ : ∃ v, (zs.take len)[0]? = some v := ⟨_, List.getElem?_eq_getElem h0⟩
      have hspot : spot = none := by simpa [Addr.add] using World.cell?_spot (key 0 v hv)
      subst hspot
      refine ⟨b, off, rfl, ?_, fun j c hc => ?_⟩
      · have := key 0 v hv
        rw [Go.WideShapes.add_plain] at this
        exact DskOq.cell_lt this
      · have := key j c hc
        rw [Go.WideShapes.add_plain] at this
        exact this
end Go.Proofs.Ytbmhfmkfkdbmdaa.DskOr
end

section
/-
  DiskSurvives: for the row.
-/
namespace Go.Proofs.Ytbmhfmkfkdbmdaa.Dsk4
open Go.RowKit
set_option linter.unusedVariables false
theorem walkF (A1 : Option Addr) (n1 c1 : Nat) (z : List (Int × Int)) (A2 : Option Addr) (n2 c2 : Nat) (y : List (Int × Int)) (A3 : Option Addr) (n3 c3 : Nat) (zs : List Int) (w : World)
    (w0 : z.length = n1) (x0 : n1 ≤ c1) (y0 : 0 < n1 → ∃ b o, A1 = some ⟨b, o, none⟩ ∧ b < w.heap.size ∧ ∀ j p, z[j]? = some p → w.cell? ⟨b, o + j * 2, none⟩ = some (.int .u8 p.1) ∧ w.cell? ⟨b, o + j * 2 + 1, none⟩ = some (.int .u8 p.2)) (u0 : ∀ p ∈ z, 0 ≤ p.1 ∧ p.1 < 256 ∧ 0 ≤ p.2 ∧ p.2 < 256)
    (w1 : y.length = n2) (x1 : n2 ≤ c2) (y1 : 0 < n2 → ∃ b o, A2 = some ⟨b, o, none⟩ ∧ b < w.heap.size ∧ ∀ j p, y[j]? = some p → w.cell? ⟨b, o + j * 2, none⟩ = some (.int .u8 p.1) ∧ w.cell? ⟨b, o + j * 2 + 1, none⟩ = some (.int .u8 p.2)) (u1 : ∀ p ∈ y, 0 ≤ p.1 ∧ p.1 < 256 ∧ 0 ≤ p.2 ∧ p.2 < 256)
    (w2 : (A3 = none ∧ n3 = 0 ∧ c3 = 0 ∧ zs = []) ∨ ∃ x, A3 = some x ∧ n3 ≤ c3 ∧ c3 ≤ maxLen ∧ zs.length = c3 ∧ (∀ i, i < zs.length → w.cell? (x.add i) = some (.int .u8 (zs.getD i 0))) ∧ ∀ n ∈ zs, (Lit.int .u8 n).wf = true) (y2 : n3 * 1 ≤ 140737488351232) :
    Calls Try.prog 3 #[.slice A1 n1 c1, .slice A2 n2 c2, .slice A3 n3 c3] w fun e w' => e = .returned (.bool true) ∧ Below w.heap.size w w' := by
  obtain ⟨l, rfl, hC, hr, hc⟩ := DskOr.open_bytes w2
  exact walk A1 n1 c1 z A2 n2 c2 y A3 c3 l w w0 y0 u0 w1 y1 u1 hC hr hc (fun h ad ha => by
    obtain ⟨b, o, e, hb, _⟩ := hc h
    rw [e] at ha
    obtain rfl := Option.some.inj ha
    exact hb)
end Go.Proofs.Ytbmhfmkfkdbmdaa.Dsk4
end
