/-
  Contracts of one line for the reference's superblock; a whole struct read in a region of open order; what both Chooses have in common.
-/
import Derived.Test.YtiajgmocmnjijaaDoorSupC
import Derived.Test.YtiajgmocmnjijaaDoorSupR
import Derived.Test.YtiajgmocmnjijaaDoorCalm
namespace Go.Proofs.YtiajgmocmnjijaaDoor.SupQ
open Go.RowKit Go.Proofs.YtiajgmocmnjijaaDoor.PSup Go.Proofs.YtiajgmocmnjijaaDoorW.PrintWords Go.Proofs.YtiajgmocmnjijaaDoorW.PrintLast Go.Proofs.YtiajgmocmnjijaaDoorW.PrintMore Go.Proofs.YtiajgmocmnjijaaDoor.Str Go.Proofs.YtiajgmocmnjijaaDoor.SumH Go.Proofs.YtiajgmocmnjijaaDoor.SupP Go.Proofs.YtiajgmocmnjijaaDoor.SupC Go.Proofs.YtiajgmocmnjijaaDoor.SupR Go.Proofs.YtiajgmocmnjijaaDoor.Cm
set_option linter.unusedVariables false
theorem rgood_c (s : Sb) (W : World) : Calls Tryd.prog 25 #[.agg #[.int .i64 s.q, .int .i64 s.g, .int .i64 s.l, .int .i64 s.r, .int .i64 s.t, .int .i64 s.c]] W fun e w' => e = .returned (.bool (decide (goodP s))) ∧ Below W.heap.size W w' :=
  umbelref23_Good.calls _ _ _ _ _ _ _ W (rgood_eq s)
theorem renc_c (s : Sb) (W : World) : Calls Tryd.prog 19 #[.agg #[.int .i64 s.q, .int .i64 s.g, .int .i64 s.l, .int .i64 s.r, .int .i64 s.t, .int .i64 s.c]] W fun e w' => e = .returned (.string (encR s).1) ∧ Below W.heap.size W w' := by
  obtain ⟨k, hk⟩ := (renc_ev s).rounds
  exact umbelref23_Encode.calls k _ _ _ _ _ _ _ W hk
theorem rdec_c (b : ByteArray) (W : World) : Calls Tryd.prog 21 #[.string b] W fun e w' => e = .returned (.agg #[.int .i64 (decR b).1.q, .int .i64 (decR b).1.g, .int .i64 (decR b).1.l, .int .i64 (decR b).1.r, .int .i64 (decR b).1.t, .int .i64 (decR b).1.c, .bool (decR b).2]) ∧ Below W.heap.size W w' := by
  obtain ⟨k, hk⟩ := (rdec_ev b).rounds
  exact umbelref23_Decode.calls k b _ _ _ _ _ _ _ W hk
theorem rcho_c (a b : ByteArray) (W : World) : Calls Tryd.prog 23 #[.string a, .string b] W fun e w' => e = .returned (.tuple #[.agg #[.int .i64 (rchoR a b).1.q, .int .i64 (rchoR a b).1.g, .int .i64 (rchoR a b).1.l, .int .i64 (rchoR a b).1.r, .int .i64 (rchoR a b).1.t, .int .i64 (rchoR a b).1.c], .int .i64 (rchoR a b).2]) ∧ Below W.heap.size W w' := by
  obtain ⟨k, hk⟩ := (rcho_ev a b).rounds
  exact umbelref23_Choose.calls k a b _ _ _ _ _ _ _ W hk
theorem cho_rel (a b : ByteArray) : (rchoR a b).1 = (choR a b).1 ∧ decide (0 ≤ (rchoR a b).2) = (choR a b).2.2 ∧ max 0 (rchoR a b).2 = (choR a b).2.1 := by
  unfold rchoR choR
  obtain ⟨⟨x, xo⟩, hx⟩ : ∃ x, x = decR a := ⟨_, rfl⟩
  obtain ⟨⟨y, yo⟩, hy⟩ : ∃ y, y = decR b := ⟨_, rfl⟩
  rw [← hx, ← hy]
  clear hx hy
  dsimp only
  cases xo <;> cases yo
  · exact ⟨rfl, rfl, rfl⟩
  · exact ⟨rfl, rfl, rfl⟩
  · exact ⟨rfl, rfl, rfl⟩
  · by_cases h : x.q ≥ y.q
    · rw [if_pos ⟨rfl, Or.inr h⟩, if_neg (fun q => q.2.elim (fun e => by cases e) (fun e => by omega)), if_pos rfl]; exact ⟨rfl, rfl, rfl⟩
    · rw [if_neg (fun q => q.2.elim (fun e => by cases e) h), if_pos rfl, if_pos ⟨rfl, Or.inr (by omega)⟩]; exact ⟨rfl, rfl, rfl⟩
theorem enc_empty (s : Sb) : ((encR s).1.toList == ([] : List UInt8)) = !(encR s).2 := by
  by_cases h : goodP s
  · rw [encR, if_pos h]
    have hne : ¬ (strOfNums (encL s)).toList = ([] : List UInt8) := fun q => by
      rw [toList_nil, bytes_str _ (R_encL _)] at q
      have := encL_len s
      rw [q] at this
      exact absurd this (by decide)
    exact beq_eq_false_iff_ne.2 hne
  · rw [encR, if_neg h]
    exact beq_iff_eq.2 ((toList_nil _).2 rfl)
theorem calm_blk {W w' : World} {g : Nat} {o : Obj} (h : W.heap[g]? = some o) (hc : Cm.Calm W w') : w'.heap[g]? = some o := blk_below h hc.below
theorem blk_range {w : World} {g : Nat} {cs : Array Value} {t : TypeId} (h : w.heap[g]? = some (.cells cs t (0, 0))) (f : Nat) (l r : List Value) (hl : cs.toList.drop f = l ++ r) : w.rangeAt g f l := by
  intro j v hv
  refine (blk_cell h (f + j)).trans ?_
  rw [← Array.getElem?_toList, ← List.getElem?_drop, hl, List.getElem?_append_left (List.getElem?_eq_some_iff.1 hv).1]
  exact hv
section
variable {P : Program} {C : World → Prop}
theorem quiet_load_mid {o : Oper} {a : Act} (ty : TypeId) (x : Operand) (ho : o.op = .load ty x) (B f : Nat) (cs : List Value) (d : TypeDesc) (hx : a.eval x = .pointer (some ⟨B, f, none⟩)) (hC : ∀ w, C w → w.rangeAt B f cs)
    (hu : P.underlying ty = some d) (hd : d.isRow = true) (hi : (P.info? ty).map (·.size) = some cs.length) : ∀ w, C w → o.quietAt P a C w (.agg cs.toArray) := by
  intro w hw
  unfold Oper.quietAt execOp
  simp only [ho, hx, Instr.loadAt, Instr.sureAddr, Sem.run_bind, Sem.run_pure, Result.andThen_ok, run_loadVar_mid w B f ty cs d (hC w hw) hu hd hi]
  exact ⟨rfl, rfl⟩
theorem qstep {ops : Array Oper} {o : Oper} {a : Act} {K : Act → Prop} {N : Option Tmp} (hw : Region.wanted o (yielded ops a.tmps) = true) (hN : o.dst = N) (v : Value) (hq : ∀ w, C w → o.quietAt P a C w v) (h : K (a.put N v)) :
    if Region.wanted o (yielded ops a.tmps) then o.quiet P a C K else K (a.put N undef) := by
  rw [if_pos hw]
  subst hN
  exact ⟨v, hq, h⟩
end
end Go.Proofs.YtiajgmocmnjijaaDoor.SupQ
