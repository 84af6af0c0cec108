/-
  By hand for the nodes: strings.Join (the shelf's contract laid at this program: NodK), and node.hashes.
-/
import Derived.Test.YtklakmooaffjpaaDoorSQ
import Derived.Test.YtklakmooaffjpaaDoorCalm
import Derived.Below
import Derived.Deep.Draws
import Derived.Deep.AppendLies
import Derived.Maps.AppendAt
import Derived.OwnWalk
import Derived.Laws.BytesArg
import Derived.Laws.MakeOwn
import Derived.Laws.OwnMore
import Derived.Deep.OwnRows
import Derived.Tactics
import Derived.Lib.ConvBytes
import Derived.Laws.Slices
import Derived.WalkKit
import Derived.KernelRfl
import Derived.RowKit3
import Derived.Deep.LoopGhost
import Derived.Deep.QuietTactic
import Derived.BigQuiet
import Derived.WideLaws
import Derived.Deep.DeepCutAuto
import Derived.Deep.CutBlock
import Derived.Deep.RegionHeld3
import Derived.Laws.Rows
import Derived.Lib.AppendStr
import Derived.ArgAppend
import Derived.Laws.IdiomCopy
import Derived.OrdersHeld
import Derived.Laws.BitsLemmas
import Derived.RowKit
import Derived.Test.YtklakmooaffjpaaDoorWWords
import Derived.Test.YtklakmooaffjpaaDoorWNEv
import Derived.Test.YtklakmooaffjpaaDoorWGuard
import Derived.Test.YtklakmooaffjpaaDoorWMore
namespace Go.Proofs.YtklakmooaffjpaaDoor.NodH
open Go.RowKit Go.Proofs.YtklakmooaffjpaaDoorW.PrintWords Go.Proofs.YtklakmooaffjpaaDoorW.PrintLast Go.Proofs.YtklakmooaffjpaaDoorW.PrintMore Go.Proofs.YtklakmooaffjpaaDoor.NodO
set_option linter.unusedVariables false
/-- What a list of texts that is read says of the cells. -/
theorem C_cells {w : World} {A : Option Addr} {l : List ByteArray} (h : Kd.C Kd.string w A l.length l) (hn : 0 < l.length) : ∃ bk o, A = some ⟨bk, o, none⟩ ∧ bk < w.heap.size ∧ ∀ (j : Nat) x, l[j]? = some x → w.cell? ⟨bk, o + j, none⟩ = some (.string x) := by
  have hr := Kd.reads_of_C (enc := Value.string) (d := ByteArray.empty) (h1 := fun _ => rfl) h
  obtain ⟨⟨bk, o, e⟩, hA, hc⟩ := hr.2.2 hn
  have h0 := hc 0 hn
  have he : e = none := by
    cases e with
    | none => rfl
    | some _ =>
      exfalso
      simp only [World.cell?, Addr.add] at h0
      split at h0 <;> simp at h0
  subst he
  refine ⟨bk, o, hA, World.block_lt_of_cell? w _ h0, fun j x hx => ?_⟩
  have hj : j < l.length := (List.getElem?_eq_some_iff.1 hx).1
  have h2 := hc j hj
  rw [List.getD_eq_getElem?_getD, hx] at h2
  have e : (⟨bk, o, none⟩ : Addr).add j = ⟨bk, o + j, none⟩ := by unfold Addr.add; split <;> simp_all
  rw [e] at h2
  exact h2
theorem C_len {w : World} {A : Option Addr} {l : List ByteArray} (h : Kd.C Kd.string w A l.length l) : l.length ≤ 9223372036854775807 :=
  (Kd.reads_of_C (enc := Value.string) (d := ByteArray.empty) (h1 := fun _ => rfl) h).2.1
/-- All texts, one behind the other, with one between them. -/
def joinB (l : List ByteArray) (s : ByteArray) : ByteArray := ⟨(Lib.join (l.map (·.data.toList)) s.data.toList).toArray⟩
def join_f (l : List ByteArray) (s : ByteArray) : Option ByteArray := if l.length ≤ 140737488355328 ∧ (joinB l s).size ≤ 140737488355328 then some (joinB l s) else none
theorem join_calls (A : Option Addr) (c : Nat) (l : List ByteArray) (s r : ByteArray) (w : World) (hr : Kd.C Kd.string w A l.length l) (hc : l.length ≤ c) (h : join_f l s = some r) :
    Calls Tryd.prog 22 #[.slice A l.length c, .string s] w fun e w' => e = .returned (.string r) ∧ Below w.heap.size w w' := by
  unfold join_f at h
  split at h
  · rename_i hq
    rw [← Option.some.inj h]
    by_cases hn : 0 < l.length
    · obtain ⟨bk, o, rfl, hbk, hcl⟩ := C_cells hr hn
      exact Tryd.strings_Join bk o c l s w hcl hbk hq.1 hc (by simpa [joinB, ByteArray.size] using hq.2)
    · obtain rfl : l = [] := List.eq_nil_of_length_eq_zero (by omega)
      refine (Tryd.strings_Join_none A c s w).mono ?_
      rintro e w' ⟨rfl, rfl⟩
      exact ⟨by simp [joinB, Lib.join], Below.refl _ _⟩
  · cases h
theorem lam_c (x : ByteArray) (w : World) : Calls Tryd.prog 46 #[.string x] w fun e w' => e = .returned (.bool ((x.size : Int) != 32)) ∧ w' = w := by
  go_enter Tryd.func46, Tryd.ntmps46
  go_wp2
  go_ret
  exact ⟨rfl, rfl⟩
theorem contains_c (A : Option Addr) (c : Nat) (l : List ByteArray) (w : World) (hr : Kd.C Kd.string w A l.length l) :
    Calls Tryd.prog 45 #[.slice A l.length c, .func (.func 46) #[] #[]] w fun e w' => e = .returned (.bool (l.any fun x => (x.size : Int) != 32)) ∧ Below w.heap.size w w' := by
  by_cases hn : 0 < l.length
  · obtain ⟨bk, o, rfl, hbk, hcl⟩ := C_cells hr hn
    refine (Tryd.slices_ContainsFunc Value.string (fun x => (x.size : Int) != 32) 46 #[] (fun args w => by simp only [callFunc, go_sem]; rfl) bk o l.length c l w ?_ (Nat.le_refl _) (C_len hr) ?_).mono ?_
    · intro W x _
      refine (lam_c x W).mono ?_
      rintro e w' ⟨rfl, rfl⟩
      exact ⟨rfl, 0, rfl⟩
    · intro j hj
      refine hcl j _ ?_
      rw [List.getElem?_eq_getElem hj, getElem!_pos l j hj]
    · rintro e w' ⟨rfl, q, rfl⟩
      rw [List.take_length]
      exact ⟨rfl, pN (Below.refl _ _) q⟩
  · obtain rfl : l = [] := List.eq_nil_of_length_eq_zero (by omega)
    refine (Tryd.slices_ContainsFunc_empty (α := Nat) A c _ w).mono ?_
    rintro e w' ⟨rfl, rfl⟩
    exact ⟨rfl, Below.refl _ _⟩
theorem count_c (n : Nat) (h : n < 65536) (w : World) : Calls Tryd.prog 44 #[.int .u64 (n : Int)] w fun e w' => e = .returned (.int .i64 ((pop 16 n : Nat) : Int)) ∧ Below w.heap.size w w' := by
  refine (PNoz.bits_OnesCount.calls (n : Int) _ w (count n h)).mono ?_
  rintro e w' ⟨rfl, m, rfl⟩
  exact ⟨rfl, pN (Below.refl _ _) m⟩
theorem calmB {W w' : World} {g : Nat} {o : Obj} (h : W.heap[g]? = some o) (hc : Cm.Calm W w') : w'.heap[g]? = some o := bB h hc.below
/-- What node.hashes answers. -/
def hashR (n : Nat) (l : List ByteArray) : Bool := decide (pop 16 n = l.length) && !(l.any fun x => (x.size : Int) != 32)
set_option maxRecDepth 100000 in
set_option maxHeartbeats 4000000 in
theorem hashes_c (a : Int) (b : ByteArray) (c : Bool) (d : ByteArray) (n : Nat) (A : Option Addr) (cp : Nat) (l : List ByteArray) (w : World) (hr : Kd.C Kd.string w A l.length l) (hn : n < 65536) :
    Calls Tryd.prog 26 #[.agg #[.int .i64 a, .string b, .bool c, .string d, .int .i64 (n : Int), .slice A l.length cp]] w fun e w' => e = .returned (.bool (hashR n l)) ∧ Below w.heap.size w w' := by
  have HB := A0_.mk (Below.refl w.heap.size w)
  have hu24 := Tryd.underlying24
  have CO := Lib.hid fun W => count_c n hn W
  have CC := Lib.hid fun W (hb : Below w.heap.size w W) => contains_c A cp l W (Kd.C_below hr hb)
  have hw : IntKind.u64.wrap (n : Int) = (n : Int) := by rw [IntKind.wrap_u64]; omega
  obtain ⟨g, hg⟩ : ∃ g, g = l.any fun x => (x.size : Int) != 32 := ⟨_, rfl⟩
  unfold hashR; rw [← hg] at CC ⊢; clear hg
  obtain ⟨q, hq⟩ : ∃ q, q = pop 16 n := ⟨_, rfl⟩
  rw [← hq] at CO ⊢; clear hq
  by_cases he : q = l.length
  · rw [decide_eq_true he, Bool.true_and]
    have HQ := Lib.hid (show ((q : Int) == (l.length : Int)) = true by rw [he]; exact beq_self_eq_true _)
    clear he hn hr
    go_enter Tryd.func26, Tryd.ntmps26
    go_wp2_with ((with_reducible refine gD (N := 1) rfl ?_); (try (refine gG (by rfl) ?_; dsimp only)); refine xE ?hg (N := 1) ?hd (cs := #[.int .i64 a, .string b, .bool c, .string d, .int .i64 (n : Int), .slice A l.length cp]) (t := 24) ?hr ?_; (case hd => rfl); (case hg => rfl); (case hr => first | (go_simp; done) | (go_simp; rfl)); intro gi hg v1 hbox hb; have GEgi := A0_.mk (by rw [hg]; exact wZ SQ.bw : w.heap.size ≤ gi); have BKgi := A0_.mk hbox; replace HB := A0_.mk (wT SQ.bw hb); clear hb hbox hg; obtain ⟨hcz1, hcz2, hcz3, hcz4, hcz5, hcz6, hfz1, hfz2, hfz3, hfz4, hfz5, hfz6⟩ := SQ.cs6 BKgi.out)
    have HCm := Lib.hid (show ∀ w', Cm.Calm v1 w' → w'.cell? ⟨gi, 4, none⟩ = some (.int .i64 (n : Int)) from fun w' hc => (bC (calmB BKgi.out hc) 4).trans rfl)
    have HCs := Lib.hid (show ∀ w', Cm.Calm v1 w' → w'.cell? ⟨gi, 5, none⟩ = some (.slice A l.length cp) from fun w' hc => (bC (calmB BKgi.out hc) 5).trans rfl)
    refine Cm.wp_region_calm_lit v1 (by kernel_rfl) (by kernel_rfl) (Cm.Calm.refl _) ?_
    repeat (first | rw [HQ.out] | go_big_quiet_step (fail) | (refine wpQuiet_step (fun K hK => ?_); go_simp; first | (refine hK _ ?_; clear hK K) | (refine ⟨_, fun _ _ => rfl, hK _ ?_⟩; clear hK K) | (refine ⟨.int .i64 (n : Int), fun w' hw => by simp only [HCm.out w' hw]; exact ⟨rfl, rfl⟩, hK _ ?_⟩; clear hK K) | (refine ⟨.slice A l.length cp, fun w' hw => by simp only [HCs.out w' hw]; exact ⟨rfl, rfl⟩, hK _ ?_⟩; clear hK K) | (apply Exists.intro; refine ⟨fun _ hc_ => ?_, hK _ ?_⟩; (first | exact Cm.Calm.call hc_ (CO.out _) | exact Cm.Calm.call hc_ (CC.out _ ((HB.out).trans (hc_.below.mono (HB.out).size)))); clear hK K)))
    refine wpQuiet_nil ?_
    intro v2 hcw
    have hb := hcw.below
    clear hcw
    replace BKgi := A0_.mk (bB (g := gi) SQ.kw hb)
    replace HB := A0_.mk (wT SQ.bw hb)
    clear hcz1 hfz1 hcz2 hfz2 hcz3 hfz3 hcz4 hfz4 hcz5 hfz5 hcz6 hfz6
    (try clear hb)
    go_wp2_with fail
    go_ret
    exact ⟨by rfl, SQ.bw⟩
  · rw [decide_eq_false he, Bool.false_and]
    have HQ := Lib.hid (show ((q : Int) == (l.length : Int)) = false by rw [Bool.eq_false_iff]; intro h; exact he (by have := beq_iff_eq.1 h; omega))
    clear he hn hr
    go_enter Tryd.func26, Tryd.ntmps26
    go_wp2_with ((with_reducible refine gD (N := 1) rfl ?_); (try (refine gG (by rfl) ?_; dsimp only)); refine xE ?hg (N := 1) ?hd (cs := #[.int .i64 a, .string b, .bool c, .string d, .int .i64 (n : Int), .slice A l.length cp]) (t := 24) ?hr ?_; (case hd => rfl); (case hg => rfl); (case hr => first | (go_simp; done) | (go_simp; rfl)); intro gi hg v1 hbox hb; have GEgi := A0_.mk (by rw [hg]; exact wZ SQ.bw : w.heap.size ≤ gi); have BKgi := A0_.mk hbox; replace HB := A0_.mk (wT SQ.bw hb); clear hb hbox hg; obtain ⟨hcz1, hcz2, hcz3, hcz4, hcz5, hcz6, hfz1, hfz2, hfz3, hfz4, hfz5, hfz6⟩ := SQ.cs6 BKgi.out)
    have HCm := Lib.hid (show ∀ w', Cm.Calm v1 w' → w'.cell? ⟨gi, 4, none⟩ = some (.int .i64 (n : Int)) from fun w' hc => (bC (calmB BKgi.out hc) 4).trans rfl)
    have HCs := Lib.hid (show ∀ w', Cm.Calm v1 w' → w'.cell? ⟨gi, 5, none⟩ = some (.slice A l.length cp) from fun w' hc => (bC (calmB BKgi.out hc) 5).trans rfl)
    refine Cm.wp_region_calm_lit v1 (by kernel_rfl) (by kernel_rfl) (Cm.Calm.refl _) ?_
    repeat (first | rw [HQ.out] | go_big_quiet_step (fail) | (refine wpQuiet_step (fun K hK => ?_); go_simp; first | (refine hK _ ?_; clear hK K) | (refine ⟨_, fun _ _ => rfl, hK _ ?_⟩; clear hK K) | (refine ⟨.int .i64 (n : Int), fun w' hw => by simp only [HCm.out w' hw]; exact ⟨rfl, rfl⟩, hK _ ?_⟩; clear hK K) | (refine ⟨.slice A l.length cp, fun w' hw => by simp only [HCs.out w' hw]; exact ⟨rfl, rfl⟩, hK _ ?_⟩; clear hK K) | (apply Exists.intro; refine ⟨fun _ hc_ => ?_, hK _ ?_⟩; (first | exact Cm.Calm.call hc_ (CO.out _)); clear hK K)))
    refine wpQuiet_nil ?_
    intro v2 hcw
    have hb := hcw.below
    clear hcw
    replace BKgi := A0_.mk (bB (g := gi) SQ.kw hb)
    replace HB := A0_.mk (wT SQ.bw hb)
    clear hcz1 hfz1 hcz2 hfz2 hcz3 hfz3 hcz4 hfz4 hcz5 hfz5 hcz6 hfz6
    (try clear hb)
    go_wp2_with fail
    go_ret
    exact ⟨by rfl, SQ.bw⟩
end Go.Proofs.YtklakmooaffjpaaDoor.NodH
