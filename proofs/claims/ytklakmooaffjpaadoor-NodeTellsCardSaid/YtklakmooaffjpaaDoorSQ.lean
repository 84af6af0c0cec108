import Derived.Test.YtklakmooaffjpaaDoorWWords
import Derived.Test.YtklakmooaffjpaaDoorWMore
section
/-
  Words of this session's own beside the printed ones: make with a capacity of its own.
-/
namespace Go.Proofs.YtklakmooaffjpaaDoor.HW
open Go.RowKit Go.Proofs.YtklakmooaffjpaaDoorW.PrintWords
set_option linter.unusedVariables false
theorem le_cap_ {m K : Int} {by_ : Nat} (h : m ≤ K) (hb : K.toNat * by_ ≤ 281474976710656) : m.toNat * by_ ≤ 281474976710656 :=
  Nat.le_trans (Nat.mul_le_mul_right _ (by omega)) hb
/-- An element of an array of whole numbers that is a value. -/
theorem run_index_ints {P : Program} (W : World) {T e n : Nat} (hT : P.underlying T = some (.array n e)) (hA : ∀ W : World, (isAgg e).run P W = .ok false W) (hS : ∀ W : World, (sizeOf e).run P W = .ok 1 W)
    (xs : List Int) (hl : xs.length = n) (k ki : IntKind) (j : Int) (h0 : 0 ≤ j) (h1 : j < (n : Int)) :
    (Instr.index T (.agg (xs.map (Value.int k)).toArray) (.int ki j)).run P W = .ok (.int k (rd xs j)) W := by
  have hj : j.toNat < xs.length := by omega
  simp [Instr.index, run_underlying hT, asIntOf, h0, h1, part, hA, hS, go_sem, rd, hj]
namespace Kd
open Go.Proofs.YtklakmooaffjpaaDoorW.PrintWords.Kd
section
variable {P : Program} {ops : Array Oper} {rest : List Oper} {o : Oper} {a : Act} {Q : Exit → Act → World → Prop} {α : Type}
/-- make([]T, n, m): n elements, each the zero; room for m. -/
theorem R_makecap (d : Kd α) {w0 W : World} (base e : Nat) (hgd : o.guard = none) {N : Tmp} (hd : o.dst = some N) (t : TypeId) (x y : Operand) (ho : o.op = .makeSlice t x y) (n m : Int) (hx : a.eval x = .int .i64 n) (hy : a.eval y = .int .i64 m)
    (ht : P.underlying t = some (.slice e)) (z : Value) (bytes : Nat) (hinfo : (P.info? e).map (fun i => (i.zero, i.size, i.bytes)) = some (some z, d.sz, bytes)) (hz : z.cells.size = d.sz) (hs0 : 0 < d.sz) (hb0 : 0 < bytes)
    (z0 : α) {ok okp : Nat → Prop} (hzero : d.M W base okp z0 z.cells.toList) (hok : ∀ k, okp k → ok k) (hfresh : ok W.heap.size) (h0 : 0 ≤ n) (hnm : n ≤ m) (hl : m.toNat * bytes ≤ 281474976710656) (HB : Below base w0 W) (hbase : base ≤ W.heap.size)
    (h : ∀ v1 w1, d.R e w1 base ok v1 (List.replicate n.toNat z0) → Below base w0 w1 → W.grownBy w1 none → (∃ b, v1.ownBlock = some b ∧ W.heap.size ≤ b) → wpList P ops Q rest (a.put o.dst v1) w1) : wpList P ops Q (o :: rest) a W := by
  obtain ⟨n, rfl⟩ := Int.eq_ofNat_of_zero_le h0
  obtain ⟨m, rfl⟩ := Int.eq_ofNat_of_zero_le (Int.le_trans h0 hnm)
  simp only [Int.toNat_natCast] at hl h
  have hnm' : n ≤ m := by omega
  obtain ⟨i0, hi, hzz⟩ := Option.map_eq_some_iff.1 hinfo
  simp only [Prod.mk.injEq] at hzz
  obtain ⟨hz0, hz1, hz2⟩ := hzz
  have hm : m ≤ 281474976710656 := Nat.le_trans (Nat.le_mul_of_pos_right _ hb0) hl
  have hr := run_make (P := P) W t e i0 z ht hi hz0 .i64 .i64 (n : Int) (m : Int) (by omega) (by omega)
    (by
      have h3 : ((i0.bytes * m : Nat) : Int) ≤ 281474976710656 := by rw [hz2, Nat.mul_comm]; omega
      rwa [Int.natCast_mul] at h3) (by omega)
  simp only [Int.toNat_natCast] at hr
  rw [hz1] at hr
  have hrun : (execOp a.eval o).run P W = .ok (.value (.slice (some ⟨W.heap.size, 0, none⟩) n m)) (W.alloc (.cells (madeCells z.cells (m * d.sz)) e)) := by
    simp [execOp, ho, hx, hy, hr]
  have hown : (W.alloc (.cells (madeCells z.cells (m * d.sz)) e)).ownsRow base e d.sz (.slice (some ⟨W.heap.size, 0, none⟩) n m) (List.replicate n z0).length (madeCells z.cells (n * d.sz)).toList := by
    rw [List.length_replicate]
    refine ⟨by simp [size_madeCells], .inr ⟨W.heap.size, m, madeCells z.cells (m * d.sz), rfl, hbase, heap_alloc_new W _, hnm', by simp only [maxLen]; omega, by simp [size_madeCells], ?_⟩⟩
    have hle := Nat.mul_le_mul_right d.sz hnm'
    apply List.ext_getElem
    · simp only [List.length_take, Array.length_toList, size_madeCells]; exact Nat.min_eq_left hle
    · intro j h1 h2
      simp [madeCells]
  refine event_run hgd hrun (h _ _ ⟨fun k hk => ?_, (madeCells z.cells (n * d.sz)).toList, hown, ?_⟩ (HB.alloc hbase _) (World.grownBy_alloc W _ none) ⟨W.heap.size, by simp [Value.ownBlock], Nat.le_refl _⟩)
  · have : W.heap.size = k := by simpa [Value.ownBlock] using hk
    subst this
    exact hfresh
  · refine (reps_made hz hs0 hzero n).imp_ (fun p c hp => d.M_mono (fun k hk => ⟨hok k hk.1, fun he => ?_⟩) (M_below (d.M_bound hp) (wA (Below.refl _ _) _)))
    have h3 : k = W.heap.size := by simpa [Value.ownBlock] using he
    have := hk.2.2.1
    omega
end
end Kd
end Go.Proofs.YtklakmooaffjpaaDoor.HW
end

section
/-
  Short words for what printed walks say again and again (squeeze2.py puts them in).
-/
namespace Go.Proofs.YtklakmooaffjpaaDoor.SQ
open Go.RowKit Go.Proofs.YtklakmooaffjpaaDoorW.PrintWords Go.Proofs.YtklakmooaffjpaaDoorW.PrintLast Go.Proofs.YtklakmooaffjpaaDoorW.PrintMore
/-- The world is above the first one. -/
theorem bw {w W : World} (h : Below w.heap.size w W := by repeat (first | (with_reducible first | exact A0_.out (by assumption) | apply wA | apply pN | apply wD | refine wS ?_ (A0_.out (by assumption))) | exact A0_.out (by assumption))) : Below w.heap.size w W := h
/-- A block's cells, as the context tells them. -/
theorem kw {w : World} {g : Nat} {o : Obj} (h : w.heap[g]? = some o := by (with_reducible repeat (first | refine bN ?_ _ | refine bD ?_ | refine bA ?_ _)); first | (with_reducible exact A0_.out (by assumption)) | exact A0_.out (by assumption)) : w.heap[g]? = some o := h
theorem er {P : Prop} (h : P := by first | rfl | (simp [errW_none, errW_some] <;> rfl) | (simp [*, errW_none, errW_some] <;> rfl)) : P := h
theorem sm {P : Prop} (h : P := by (try simp only [List.map_toArray, List.map_cons, List.map_nil]); first | done | rfl | (simp only [List.length_drop, List.length_take]; rfl)) : P := h
theorem da {p : Prop} [Decidable p] (h : decide p = true := by first | (with_reducible assumption) | assumption) : p := of_decide_eq_true h
section
variable {w : World} {g : Nat} {a b c d e f i : Value} {t : TypeId}
theorem cs1 (h : w.heap[g]? = some (.cells #[a] t (0, 0))) : w.cell? ⟨g, 0, none⟩ = some a ∧ w.frozen? ⟨g, 0, none⟩ = false := ⟨(bC h 0).trans rfl, bF h 0⟩
theorem cs2 (h : w.heap[g]? = some (.cells #[a, b] t (0, 0))) : w.cell? ⟨g, 0, none⟩ = some a ∧ w.cell? ⟨g, 1, none⟩ = some b ∧ w.frozen? ⟨g, 0, none⟩ = false ∧ w.frozen? ⟨g, 1, none⟩ = false := ⟨(bC h 0).trans rfl, (bC h 1).trans rfl, bF h 0, bF h 1⟩
theorem cs3 (h : w.heap[g]? = some (.cells #[a, b, c] t (0, 0))) : w.cell? ⟨g, 0, none⟩ = some a ∧ w.cell? ⟨g, 1, none⟩ = some b ∧ w.cell? ⟨g, 2, none⟩ = some c ∧ w.frozen? ⟨g, 0, none⟩ = false ∧ w.frozen? ⟨g, 1, none⟩ = false ∧ w.frozen? ⟨g, 2, none⟩ = false := ⟨(bC h 0).trans rfl, (bC h 1).trans rfl, (bC h 2).trans rfl, bF h 0, bF h 1, bF h 2⟩
theorem cs5 (h : w.heap[g]? = some (.cells #[a, b, c, d, e] t (0, 0))) : w.cell? ⟨g, 0, none⟩ = some a ∧ w.cell? ⟨g, 1, none⟩ = some b ∧ w.cell? ⟨g, 2, none⟩ = some c ∧ w.cell? ⟨g, 3, none⟩ = some d ∧ w.cell? ⟨g, 4, none⟩ = some e ∧ w.frozen? ⟨g, 0, none⟩ = false ∧ w.frozen? ⟨g, 1, none⟩ = false ∧ w.frozen? ⟨g, 2, none⟩ = false ∧ w.frozen? ⟨g, 3, none⟩ = false ∧ w.frozen? ⟨g, 4, none⟩ = false := ⟨(bC h 0).trans rfl, (bC h 1).trans rfl, (bC h 2).trans rfl, (bC h 3).trans rfl, (bC h 4).trans rfl, bF h 0, bF h 1, bF h 2, bF h 3, bF h 4⟩
theorem cs6 (h : w.heap[g]? = some (.cells #[a, b, c, d, e, f] t (0, 0))) : w.cell? ⟨g, 0, none⟩ = some a ∧ w.cell? ⟨g, 1, none⟩ = some b ∧ w.cell? ⟨g, 2, none⟩ = some c ∧ w.cell? ⟨g, 3, none⟩ = some d ∧ w.cell? ⟨g, 4, none⟩ = some e ∧ w.cell? ⟨g, 5, none⟩ = some f ∧ w.frozen? ⟨g, 0, none⟩ = false ∧ w.frozen? ⟨g, 1, none⟩ = false ∧ w.frozen? ⟨g, 2, none⟩ = false ∧ w.frozen? ⟨g, 3, none⟩ = false ∧ w.frozen? ⟨g, 4, none⟩ = false ∧ w.frozen? ⟨g, 5, none⟩ = false := ⟨(bC h 0).trans rfl, (bC h 1).trans rfl, (bC h 2).trans rfl, (bC h 3).trans rfl, (bC h 4).trans rfl, (bC h 5).trans rfl, bF h 0, bF h 1, bF h 2, bF h 3, bF h 4, bF h 5⟩
theorem cs7 (h : w.heap[g]? = some (.cells #[a, b, c, d, e, f, i] t (0, 0))) : w.cell? ⟨g, 0, none⟩ = some a ∧ w.cell? ⟨g, 1, none⟩ = some b ∧ w.cell? ⟨g, 2, none⟩ = some c ∧ w.cell? ⟨g, 3, none⟩ = some d ∧ w.cell? ⟨g, 4, none⟩ = some e ∧ w.cell? ⟨g, 5, none⟩ = some f ∧ w.cell? ⟨g, 6, none⟩ = some i ∧ w.frozen? ⟨g, 0, none⟩ = false ∧ w.frozen? ⟨g, 1, none⟩ = false ∧ w.frozen? ⟨g, 2, none⟩ = false ∧ w.frozen? ⟨g, 3, none⟩ = false ∧ w.frozen? ⟨g, 4, none⟩ = false ∧ w.frozen? ⟨g, 5, none⟩ = false ∧ w.frozen? ⟨g, 6, none⟩ = false := ⟨(bC h 0).trans rfl, (bC h 1).trans rfl, (bC h 2).trans rfl, (bC h 3).trans rfl, (bC h 4).trans rfl, (bC h 5).trans rfl, (bC h 6).trans rfl, bF h 0, bF h 1, bF h 2, bF h 3, bF h 4, bF h 5, bF h 6⟩
end
end Go.Proofs.YtklakmooaffjpaaDoor.SQ
end
