/-
  slices.Chunk's iterator over whole numbers, 20 a chunk.
-/
import Derived.RangeFuncNested
import Derived.RangeFuncBound
import Derived.RangeFuncBox
import Derived.RangeFuncCalls
import Derived.RangeFuncLeaves
import Derived.Shelf.Abstract
import Derived.Shelf.RegionOpen
import Derived.WalkKit
import Derived.OwnWalkIn
import Derived.TacticsInMore
import Derived.LoopNIn
import Derived.LoopIn
import Derived.Test.YtbgojedhciimaaaProg
namespace Go.Proofs.Ytbgojedhciimaaa.LisI
open Go.RowKit Go.Shelf
structure Hd (p : Prop) : Prop where
  out : p
attribute [local go_sem] Oper.semAt_some
set_option linter.unusedVariables false
set_option maxHeartbeats 1000000 in
theorem chunk_in (F : Fence) (n : Nat) (h5 : F.fn 39) (hro : F.round = none) (a : Option Addr) (len cap : Nat) (w : World) :
    CallsIn F n Try.prog 39 #[.slice a len cap, .int .i64 20] w fun e w' => e = .returned (.func (.func 42) #[] #[.pointer (some ⟨w.heap.size, 0, none⟩), .pointer (some ⟨w.heap.size + 1, 0, none⟩)]) ∧ w' = (w.alloc (.cells #[.slice a len cap] 39)).alloc (.cells #[.int .i64 20] 3) := by
  refine callsIn_of_wp Try.func39 rfl h5 ?_ hro
  simp only [Try.ntmps39, List.size_toArray, List.length_cons, List.length_nil, Nat.reduceAdd, Nat.reduceSub, Array.replicate_succ, Array.replicate_zero, List.push_toArray, List.append_toArray, List.nil_append, List.cons_append]
  gi_wp2
  go_ret
  exact ⟨rfl, rfl⟩
/-- Two blocks lie as they lay. -/
def Two (b c : Nat) (W W' : World) : Prop := W'.heap[b]? = W.heap[b]? ∧ W'.heap[c]? = W.heap[c]?
theorem Two.refl (b c : Nat) (W : World) : Two b c W W := ⟨rfl, rfl⟩
theorem Two.trans {b c : Nat} {A B C : World} (h : Two b c A B) (k : Two b c B C) : Two b c A C := ⟨k.1.trans h.1, k.2.trans h.2⟩
theorem Two.c1 {b c : Nat} {W W' : World} (h : Two b c W W') (o : Nat) : W'.cell? ⟨b, o, none⟩ = W.cell? ⟨b, o, none⟩ := by simp [World.cell?, h.1]
theorem Two.c2 {b c : Nat} {W W' : World} (h : Two b c W W') (o : Nat) : W'.cell? ⟨c, o, none⟩ = W.cell? ⟨c, o, none⟩ := by simp [World.cell?, h.2]
theorem two_b {b c : Nat} {w : World} (hb : b < w.heap.size) (hc : c < w.heap.size) (W : World) (l : Nat) (o o' : Obj) (hl : w.heap.size ≤ l) (h : W.heap[l]? = some o) (_ : o.isCells = false) (_ : o.isWalk = false) : Two b c W (W.putObj l o') :=
  ⟨World.putObj_heap_other (by omega), World.putObj_heap_other (by omega)⟩
/-- A chunk's number. -/
abbrev Ch (xs : List Int) := { m : Nat // 20 * m < xs.length }
/-- A chunk. -/
def chV (ad : Addr) (len : Nat) (m : Nat) : Value := .slice (some (ad.add (20 * m))) (min 20 (len - 20 * m)) (min 20 (len - 20 * m))
set_option maxRecDepth 100000 in
set_option maxHeartbeats 2000000 in
theorem chunk1_in (F : Fence) (n : Nat) (h7 : F.fn 42) (hro : F.round = none) (hn : 1 ≤ n) (l Bs Bn cap : Nat) (ad : Addr) (xs : List Int) (hl : xs.length ≤ 500) (hcap : xs.length ≤ cap) (J Jx : List (Ch xs) → World → Prop)
    (hY : ∀ pre (x : Ch xs) W, J pre W → pre.length < (xs.length + 19) / 20 → YieldAt F (n - 1) Try.prog l #[chV ad xs.length x.1] W fun e W' =>
      (e = .returned (.bool true) ∧ J (pre ++ [x]) W' ∧ Two Bs Bn W W') ∨ (e = .returned (.bool false) ∧ Jx (pre ++ [x]) W'))
    (W : World) (hs : W.cell? ⟨Bs, 0, none⟩ = some (.slice (some ad) xs.length cap)) (hnn : W.cell? ⟨Bn, 0, none⟩ = some (.int .i64 20)) (h0 : J [] W) (hJ : AbidesFrom W.heap.size J) :
    CallsIn F n Try.prog 42 #[.func (.yield l) #[] #[], .pointer (some ⟨Bs, 0, none⟩), .pointer (some ⟨Bn, 0, none⟩)] W fun e W' => (∃ v, e = .returned v) ∧
      ((∃ ys : List (Ch xs), ys.map Subtype.val = List.range ((xs.length + 19) / 20) ∧ J ys W') ∨ (∃ pre, Jx pre W')) := by
  refine callsIn_of_wp Try.func42 rfl h7 ?_ hro
  simp only [Try.ntmps42, List.size_toArray, List.length_cons, List.length_nil, Nat.reduceAdd, Nat.reduceSub, Array.replicate_succ, Array.replicate_zero, List.push_toArray, List.append_toArray, List.nil_append, List.cons_append]
  gi_wp2
  gi_loopw [4] (fun i wr => ∃ (k : Nat) (pre : List (Ch xs)), 20 * k < xs.length + 20 ∧ i = .int .i64 (20 * (k : Int)) ∧ pre.map Subtype.val = List.range k ∧ J pre wr ∧ Two Bs Bn W wr)
    (fun i _ => xs.length + 20 - (intOf i).toNat)
  case atStart => exact ⟨0, [], by omega, rfl, rfl, h0, Two.refl _ _ _⟩
  case round =>
    obtain ⟨k, pre, hk, rfl, hpre, hJs, hnx⟩ := hrel
    have hs' := (hnx.c1 0).trans hs
    have hn' := (hnx.c2 0).trans hnn
    have hpl : pre.length = k := by have := congrArg List.length hpre; simpa using this
    by_cases hlt : 20 * k < xs.length
    · have hcne : ¬ cap = 20 * k := by omega
      have hb : 0 ≤ 20 * (k : Int) ∧ 20 * (k : Int) ≤ (xs.length : Int) := by omega
      have e20 : (20 * (k : Int)).toNat = 20 * k := by omega
      obtain ⟨m, hm⟩ : ∃ m : Nat, m = min 20 (xs.length - 20 * k) := ⟨_, rfl⟩
      have hm2 : (if ((xs.length - 20 * k : Nat) : Int) < 20 then ((xs.length - 20 * k : Nat) : Int) else 20) = (m : Int) := by split <;> omega
      have hml : 20 * k + m ≤ xs.length := by omega
      have Hm := Hd.mk hm
      clear hm
      gi_wp2
      refine wpIn_region_quiet_lit hro rfl (by kernel_rfl) ?_
      repeat (quiet_step_in (fail))
      refine wpQuietIn_nil ?_
      rintro _ ⟨nq, rfl⟩
      obtain ⟨fn, tmps, assign, body, hy, hR⟩ := hY pre ⟨k, hlt⟩ (wr.drewN nq) (hJ _ _ _ none hJs ⟨rfl, rfl, rfl, Nat.le_refl _, fun _ _ _ => rfl⟩ (fun r e => by cases e)) (by rw [hpl]; omega)
      dsimp only [chV] at hy
      rw [← Hm.out] at hy
      try rw [hm2]
      gi_wp2
      refine hR.mono ?_
      have hdw : Two Bs Bn wr (wr.drewN nq) := ⟨rfl, rfl⟩
      rintro e W3 (⟨rfl, hJ3, hk3⟩ | ⟨rfl, hJx3⟩)
      · have hn3 : W3.cell? ⟨Bn, 0, none⟩ = some (.int .i64 20) := (hk3.c2 0).trans ((hdw.c2 0).trans hn')
        clear hR hy hm2 hb e20
        gi_wp2
        go_roundw
        case rel => exact ⟨k + 1, pre ++ [⟨k, hlt⟩], by omega, by simp; omega, by rw [List.map_append, hpre, List.range_succ]; rfl, hJ3, hnx.trans (hdw.trans hk3)⟩
        case measure => simp [intOf]; omega
      · clear hR hy hm2 hb e20
        gi_wp2
        refine bodyPost_ret (results_none rfl _ _ _) rfl ?_
        exact ⟨⟨_, rfl⟩, .inr ⟨_, hJx3⟩⟩
    · have hge : ¬ (20 * (k : Int) < (xs.length : Int)) := by omega
      gi_wp2
      go_end0
      exact ⟨⟨_, rfl⟩, .inl ⟨pre, by rw [show pre.unattach = pre.map Subtype.val from rfl, hpre]; congr 1; omega, hJs⟩⟩
set_option maxRecDepth 100000 in
set_option maxHeartbeats 1000000 in
theorem chunk0_in (F : Fence) (n : Nat) (h7 : F.fn 42) (hro : F.round = none) (l Bs Bn cap : Nat) (A : Option Addr) {α : Type} (J : List α → World → Prop) (W : World) (hs : W.cell? ⟨Bs, 0, none⟩ = some (.slice A 0 cap)) (hnn : W.cell? ⟨Bn, 0, none⟩ = some (.int .i64 20)) (h0 : J [] W) :
    CallsIn F n Try.prog 42 #[.func (.yield l) #[] #[], .pointer (some ⟨Bs, 0, none⟩), .pointer (some ⟨Bn, 0, none⟩)] W fun e W' => (∃ v, e = .returned v) ∧ J [] W' := by
  refine callsIn_of_wp Try.func42 rfl h7 ?_ hro
  simp only [Try.ntmps42, List.size_toArray, List.length_cons, List.length_nil, Nat.reduceAdd, Nat.reduceSub, Array.replicate_succ, Array.replicate_zero, List.push_toArray, List.append_toArray, List.nil_append, List.cons_append]
  gi_wp2
  gi_loopw [4] (fun i wr => i = .int .i64 0 ∧ wr = W) (fun _ _ => 0)
  case atStart => exact ⟨rfl, rfl⟩
  case round =>
    obtain ⟨rfl, rfl⟩ := hrel
    gi_wp2
    go_end0
    exact ⟨⟨_, rfl⟩, h0⟩
/-- slices.Chunk(l, 20) hands back a value that stops: all chunks. -/
theorem chunk_stops (F : Fence) (n : Nat) (h7 : F.fn 42) (hro : F.round = none) (hn : 1 ≤ n) (Bs Bn cap : Nat) (ad : Addr) (xs : List Int) (hl : xs.length ≤ 500) (hcap : xs.length ≤ cap) (w : World) (hBs : Bs < w.heap.size) (hBn : Bn < w.heap.size)
    (hs : w.cell? ⟨Bs, 0, none⟩ = some (.slice (some ad) xs.length cap)) (hnn : w.cell? ⟨Bn, 0, none⟩ = some (.int .i64 20)) :
    SeqStopsK F n Try.prog 42 #[.pointer (some ⟨Bs, 0, none⟩), .pointer (some ⟨Bn, 0, none⟩)] (fun x : Ch xs => #[chV ad xs.length x.1]) (Two Bs Bn) (fun ys => ys.map Subtype.val = List.range ((xs.length + 19) / 20)) (fun _ => True) ((xs.length + 19) / 20) w := fun l J Jx W hW hJ _ hY h0 => by
  refine (chunk1_in F n h7 hro hn l Bs Bn cap ad xs hl hcap J Jx hY W ((hW.cell (p := ⟨Bs, 0, none⟩) hBs).trans hs) ((hW.cell (p := ⟨Bn, 0, none⟩) hBn).trans hnn) h0 hJ).mono ?_
  rintro e W' ⟨he, ⟨ys, hys, hj⟩ | ⟨pre, hj⟩⟩
  · exact ⟨he, .inl ⟨ys, hys, hj⟩⟩
  · exact ⟨he, .inr ⟨pre, trivial, hj⟩⟩
theorem chunk0_stops (F : Fence) (n : Nat) (h7 : F.fn 42) (hro : F.round = none) (Bs Bn cap : Nat) (A : Option Addr) (xs : List Int) (h0l : xs = []) (w : World) (hBs : Bs < w.heap.size) (hBn : Bn < w.heap.size)
    (hs : w.cell? ⟨Bs, 0, none⟩ = some (.slice A xs.length cap)) (hnn : w.cell? ⟨Bn, 0, none⟩ = some (.int .i64 20)) (ad : Addr) :
    SeqStopsK F n Try.prog 42 #[.pointer (some ⟨Bs, 0, none⟩), .pointer (some ⟨Bn, 0, none⟩)] (fun x : Ch xs => #[chV ad xs.length x.1]) (Two Bs Bn) (fun ys => ys.map Subtype.val = List.range ((xs.length + 19) / 20)) (fun _ => True) ((xs.length + 19) / 20) w := fun l J Jx W hW hJ _ hY h0 => by
  have hs' : w.cell? ⟨Bs, 0, none⟩ = some (.slice A 0 cap) := by rw [hs, h0l]; rfl
  refine (chunk0_in F n h7 hro l Bs Bn cap A J W ((hW.cell (p := ⟨Bs, 0, none⟩) hBs).trans hs') ((hW.cell (p := ⟨Bn, 0, none⟩) hBn).trans hnn) h0).mono ?_
  rintro e W' ⟨he, hj⟩
  exact ⟨he, .inl ⟨[], by rw [h0l]; rfl, hj⟩⟩
end Go.Proofs.Ytbgojedhciimaaa.LisI
