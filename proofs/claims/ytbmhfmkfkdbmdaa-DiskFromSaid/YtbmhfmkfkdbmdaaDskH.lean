import Derived.Test.YtbmhfmkfkdbmdaaDskW
import Derived.Shelf.Strings.OnBuilder
import Derived.Shelf.Strings.Repeat
import Derived.Ground.Names2Prog
import Derived.Shelf.Slices.Clone
import Derived.Ground.SlgfProg
import Derived.Shelf.SlicesE.IndexFunc
import Derived.Test.YtbmhfmkfkdbmdaaProg
section
/-
  A disk's Write.
-/
namespace Go.Proofs.Ytbmhfmkfkdbmdaa.DskV
open Go.RowKit Go.Proofs.YtbmhfmkfkdbmdaaW.PrintWords Go.Proofs.YtbmhfmkfkdbmdaaW.PrintLast Go.Proofs.YtbmhfmkfkdbmdaaW.PrintMore Go.Proofs.Ytbmhfmkfkdbmdaa.DskR
set_option linter.unusedVariables false
attribute [local go_sem] undef
def wr (x : Dk) (at_ : Int) (s : ByteArray) : Int × Dk :=
  if x.down = true then (2, x) else if s.size ≠ 256 then (1, x) else if ¬ (0 ≤ at_ ∧ at_ < x.s.length) then (4, x) else if x.fuse = 0 then (2, { x with down := true })
    else (0, { x with fuse := if x.fuse > 0 then x.fuse - 1 else x.fuse, q := x.q ++ [(at_, s)] })
theorem form {w : World} {B n size : Nat} {e : TypeId} {v : Value} {xs : List Value} (h : w.ownsRow B e size v n xs) : ∃ g c, v = .slice g n c := by
  obtain ⟨_, ⟨h, h'⟩ | ⟨g, c, cur, h, _⟩⟩ := h
  · exact ⟨none, 0, by rw [h, h']⟩
  · exact ⟨_, _, h⟩
section
variable {w : World} {B D : Nat} {vs vq : Value} {x : Dk}
set_option maxHeartbeats 4000000 in
set_option maxRecDepth 100000 in
theorem write_c (hD : IsD w B D vs vq x) (hB : B ≤ w.heap.size) (hq : x.q.length < 1000000) (hu : x.fuse < 9223372036854775808) (at_ : Int) (s : ByteArray) :
    Calls Try.prog 13 #[.pointer (some ⟨D, 0, none⟩), .int .i64 at_, .string s] w fun e w' => e = .returned (.int .i64 (wr x at_ s).1) ∧ Post w B D vs vq (wr x at_ s).2 w' := by
  have hmf : ∀ (fn : Fn) (first cap : Array Value) (w : World), (Instr.makeFunc fn first cap).run Try.prog w = .ok (.func fn first cap) w := fun _ _ _ _ => rfl
  obtain ⟨g, c, rfl⟩ := form hD.rs
  obtain ⟨w1, hw1⟩ : ∃ w1, w1 = ((w.alloc (.cells #[.pointer (some ⟨D, 0, none⟩)] 25)).alloc (.cells #[.int .i64 at_] 3)).alloc (.cells #[.string s] 9) := ⟨_, rfl⟩
  have hD1 : IsD w1 B D (.slice g x.s.length c) vq x := by rw [hw1]; exact ((hD.alloc _).alloc _).alloc _
  have hF1 : Fr w w1 (own D (.slice g x.s.length c) vq) := by rw [hw1]; exact (((Fr.refl _ _).alloc _).alloc _).alloc _
  have hb0 : w1.heap[w.heap.size]? = some (.cells #[.pointer (some ⟨D, 0, none⟩)] 25 (0, 0)) := by rw [hw1]; exact blk_alloc (blk_alloc (blk_new _ _) _) _
  have hb1 : w1.heap[w.heap.size + 1]? = some (.cells #[.int .i64 at_] 3 (0, 0)) := by rw [hw1]; exact blk_alloc (by have := blk_new (w.alloc (.cells #[.pointer (some ⟨D, 0, none⟩)] 25)) (.cells #[.int .i64 at_] 3); simpa using this) _
  have hb2 : w1.heap[w.heap.size + 1 + 1]? = some (.cells #[.string s] 9 (0, 0)) := by
    rw [hw1]; have := blk_new ((w.alloc (.cells #[.pointer (some ⟨D, 0, none⟩)] 25)).alloc (.cells #[.int .i64 at_] 3)) (.cells #[.string s] 9); simpa using this
  have a0 : w1.cell? ⟨w.heap.size, 0, none⟩ = some (.pointer (some ⟨D, 0, none⟩)) := (blk_cell hb0 0).trans rfl
  have a1 : w1.cell? ⟨w.heap.size + 1, 0, none⟩ = some (.int .i64 at_) := (blk_cell hb1 0).trans rfl
  have a2 : w1.cell? ⟨w.heap.size + 1 + 1, 0, none⟩ = some (.string s) := (blk_cell hb2 0).trans rfl
  obtain ⟨⟨c0, c1, c2, c3, c4⟩, f0, f1, f2, f3, f4⟩ := hD1.cells
  have hsz : w.heap.size ≤ w1.heap.size := hF1.size
  have HD := Aside0.mk hD1
  have HF := Aside0.mk hF1
  have HB0 := Aside0.mk hb0
  have HB1 := Aside0.mk hb1
  have HB2 := Aside0.mk hb2
  have HSZ := Aside0.mk (Nat.le_trans hB hsz)
  have HQ := Aside0.mk hq
  have HU := Aside0.mk hu
  have HX := Aside0.mk hD.lt
  clear hD1 hF1 hb0 hb1 hb2 hsz hB hq hu hD
  unfold wr
  by_cases hd : x.down = true
  · rw [if_pos hd]
    rw [hd] at c4
    clear hd
    subst hw1
    go_enter Try.func13, Try.ntmps13
    go_wp2_with (go_in)
    go_ret
    exact ⟨rfl, _, _, HD.out, HF.out, fun k hk => .inl hk⟩
  rw [if_neg hd]
  rw [Bool.eq_false_iff.2 hd] at c4
  clear hd
  by_cases hs : s.size = 256
  rotate_left
  · rw [if_pos hs]
    have q1 : ((s.size : Int) != 256) = true := bne_iff_ne.2 (by omega)
    clear hs
    subst hw1
    go_enter Try.func13, Try.ntmps13
    go_wp2_with (go_in)
    go_ret
    exact ⟨rfl, _, _, HD.out, HF.out, fun k hk => .inl hk⟩
  rw [if_neg (by omega)]
  have q1 : ((s.size : Int) != 256) = false := by rw [hs]; rfl
  clear hs
  by_cases h0 : 0 ≤ at_
  rotate_left
  · rw [if_pos (fun h => h0 h.1)]
    have q2 : decide (at_ ≥ 0) = false := decide_eq_false h0
    clear h0
    subst hw1
    go_enter Try.func13, Try.ntmps13
    go_wp2_with (go_in)
    go_ret
    exact ⟨rfl, _, _, HD.out, HF.out, fun k hk => .inl hk⟩
  have q2 : decide (at_ ≥ 0) = true := decide_eq_true h0
  by_cases h1 : at_ < (x.s.length : Int)
  rotate_left
  · rw [if_pos (fun h => h1 h.2)]
    have q3 : decide (at_ < (x.s.length : Int)) = false := decide_eq_false h1
    clear h0 h1
    subst hw1
    go_enter Try.func13, Try.ntmps13
    go_wp2_with (go_in)
    go_ret
    exact ⟨rfl, _, _, HD.out, HF.out, fun k hk => .inl hk⟩
  rw [if_neg (fun h => h ⟨h0, h1⟩)]
  have q3 : decide (at_ < (x.s.length : Int)) = true := decide_eq_true h1
  clear h0 h1
  by_cases h2 : x.fuse = 0
  · rw [if_pos h2]
    have q4 : (x.fuse == 0) = true := beq_iff_eq.2 h2
    clear h2
    subst hw1
    go_enter Try.func13, Try.ntmps13
    go_wp2_with (go_in)
    go_ret
    exact ⟨rfl, _, _, HD.out.setDown true, HF.out.set _ _ (.inl (.inl rfl)), fun k hk => .inl hk⟩
  rw [if_neg h2]
  have q4 : (x.fuse == 0) = false := beq_eq_false_iff_ne.2 h2
  by_cases h3 : x.fuse > 0
  · rw [if_pos h3]
    have q5 : decide (x.fuse > 0) = true := decide_eq_true h3
    have q6 : wrap64 (x.fuse - 1) = x.fuse - 1 := by have := HU.out; unfold wrap64; omega
    have HE := Aside0.mk (HD.out.setFuse (x.fuse - 1))
    have HE0 : Aside0 ((w1.setCell ⟨D, 3, none⟩ (.int .i64 (x.fuse - 1))).heap[w.heap.size]? = _) := Aside0.mk (blk_far HB0.out (show w.heap.size ≠ D from Nat.ne_of_gt HX.out) _)
    have HE1 : Aside0 ((w1.setCell ⟨D, 3, none⟩ (.int .i64 (x.fuse - 1))).heap[w.heap.size + 1]? = _) := Aside0.mk (blk_far HB1.out (show w.heap.size + 1 ≠ D from Nat.ne_of_gt (Nat.lt_succ_of_lt HX.out)) _)
    have HE2 : Aside0 ((w1.setCell ⟨D, 3, none⟩ (.int .i64 (x.fuse - 1))).heap[w.heap.size + 1 + 1]? = _) := Aside0.mk (blk_far HB2.out (show w.heap.size + 1 + 1 ≠ D from Nat.ne_of_gt (Nat.lt_succ_of_lt (Nat.lt_succ_of_lt HX.out))) _)
    have HEZ : Aside0 (B ≤ (w1.setCell ⟨D, 3, none⟩ (.int .i64 (x.fuse - 1))).heap.size) := Aside0.mk (by simpa [World.setCell] using HSZ.out)
    have HEF := Aside0.mk (HF.out.set ⟨D, 3, none⟩ (.int .i64 (x.fuse - 1)) (.inl (.inl rfl)))
    clear h2 h3
    subst hw1
    go_enter Try.func13, Try.ntmps13
    go_wp2_with (first | (go_at_call 42; refine (DskW.clo (HE.out) HEZ.out HQ.out at_ s HE0.out HE1.out HE2.out).mono ?_; rintro e w2 ⟨rfl, vs2, vq2, p1, p2, p3⟩; have P1 := Aside0.mk p1; have P2 := Aside0.mk p2; have P3 := Aside0.mk p3; clear p1 p2 p3) | go_in)
    go_ret
    exact ⟨rfl, vs2, vq2, P1.out, HEF.out.trans P2.out (fun k hk => .inl hk), fun k hk => (P3.out k hk).elim .inl (fun q => .inr (Nat.le_trans HEF.out.size q))⟩
  · rw [if_neg h3]
    have q5 : decide (x.fuse > 0) = false := decide_eq_false h3
    clear h2 h3
    subst hw1
    go_enter Try.func13, Try.ntmps13
    go_wp2_with (first | (go_at_call 42; refine (DskW.clo (HD.out) HSZ.out HQ.out at_ s HB0.out HB1.out HB2.out).mono ?_; rintro e w2 ⟨rfl, vs2, vq2, p1, p2, p3⟩; have P1 := Aside0.mk p1; have P2 := Aside0.mk p2; have P3 := Aside0.mk p3; clear p1 p2 p3) | go_in)
    go_ret
    exact ⟨rfl, vs2, vq2, P1.out, HF.out.trans P2.out (fun k hk => .inl hk), fun k hk => (P3.out k hk).elim .inl (fun q => .inr (Nat.le_trans HF.out.size q))⟩
end
end Go.Proofs.Ytbmhfmkfkdbmdaa.DskV
end

section
/-
  A disk's rows, one element: what waits, the pages.
-/
namespace Go.Proofs.Ytbmhfmkfkdbmdaa.DskQ
open Go.RowKit Go.Proofs.YtbmhfmkfkdbmdaaW.PrintWords Go.Proofs.YtbmhfmkfkdbmdaaW.PrintLast Go.Proofs.YtbmhfmkfkdbmdaaW.PrintMore Go.Proofs.Ytbmhfmkfkdbmdaa.DskR
set_option linter.unusedVariables false
theorem w_succ (i : Nat) (h : i < 1000000000) : wrap64 ((i : Int) + 1) = ((i + 1 : Nat) : Int) := by unfold wrap64; omega
def e0 : ByteArray := ⟨#[]⟩
def z0 : Int × ByteArray := (0, e0)
theorem qC_at (q : List (Int × ByteArray)) (i : Nat) (h : i < q.length) : (qC q)[i * 2]? = some (.int .i64 (q.getD i z0).1) ∧ (qC q)[i * 2 + 1]? = some (.string (q.getD i z0).2) := by
  induction q generalizing i with
  | nil => cases h
  | cons p q ih =>
    cases i with
    | zero => exact ⟨rfl, rfl⟩
    | succ i =>
      have := ih i (by simpa using h)
      have e1 : (i + 1) * 2 = i * 2 + 1 + 1 := by omega
      rw [e1]
      exact ⟨this.1, this.2⟩
section
variable {w : World} {B : Nat} {v : Value}
theorem rowQ {q : List (Int × ByteArray)} {g c : Nat} (h : w.ownsRow B 76 2 (.slice (some ⟨g, 0, none⟩) q.length c) q.length (qC q)) (i : Nat) (hi : i < q.length) :
    w.cell? ⟨g, i * 2, none⟩ = some (.int .i64 (q.getD i z0).1) ∧ w.cell? ⟨g, i * 2 + 1, none⟩ = some (.string (q.getD i z0).2) :=
  ⟨(h.cellAt (i * 2) (by omega)).trans (qC_at q i hi).1, (h.cellAt (i * 2 + 1) (by omega)).trans (qC_at q i hi).2⟩
theorem rowS {s : List ByteArray} {g c : Nat} (h : w.ownsRow B 9 1 (.slice (some ⟨g, 0, none⟩) s.length c) s.length (sC s)) (i : Nat) (hi : i < s.length) :
    w.cell? ⟨g, i, none⟩ = some (.string (s.getD i e0)) ∧ w.frozen? ⟨g, i, none⟩ = false := by
  refine ⟨(h.cellAt i (by omega)).trans ?_, h.frozenAt i⟩
  simp [sC, hi, List.getD_eq_getElem?_getD]
theorem setS {s : List ByteArray} {g c : Nat} (h : w.ownsRow B 9 1 (.slice (some ⟨g, 0, none⟩) s.length c) s.length (sC s)) (i : Nat) (t : ByteArray) :
    (w.setCell ⟨g, i, none⟩ (.string t)).ownsRow B 9 1 (.slice (some ⟨g, 0, none⟩) (s.set i t).length c) (s.set i t).length (sC (s.set i t)) := by
  have := (h.stored i (.string t)).1
  rw [List.length_set]
  simpa [sC, List.map_set] using this
end
/-- A page of a disk is written. -/
theorem put {w : World} {B D : Nat} {vq : Value} {x : Dk} {g c : Nat} (h : IsD w B D (.slice (some ⟨g, 0, none⟩) x.s.length c) vq x) (i : Nat) (t : ByteArray) :
    IsD (w.setCell ⟨g, i, none⟩ (.string t)) B D (.slice (some ⟨g, 0, none⟩) (x.s.set i t).length c) vq { x with s := x.s.set i t } := by
  have hg : g ≠ D := fun e => h.ns (by rw [e]; rfl)
  refine ⟨?_, h.ge, setS h.rs i t, ownsRow_setCell_other (a := ⟨g, i, none⟩) h.rq (h.nsq rfl) _⟩
  rw [List.length_set]
  exact blk_far h.blk (fun e => hg e.symm) _
def putAll (s : List ByteArray) : List (Int × ByteArray) → List ByteArray
  | [] => s
  | p :: q => putAll (s.set p.1.toNat p.2) q
theorem drop_at (q : List (Int × ByteArray)) (i : Nat) (h : i < q.length) : q.drop i = q.getD i z0 :: q.drop (i + 1) := by
  rw [List.drop_eq_getElem_cons h]; simp [List.getD_eq_getElem?_getD, h]
end Go.Proofs.Ytbmhfmkfkdbmdaa.DskQ
end

section
/-
  A disk's Sync: its closure.
-/
namespace Go.Proofs.Ytbmhfmkfkdbmdaa.DskS
open Go.RowKit Go.Proofs.YtbmhfmkfkdbmdaaW.PrintWords Go.Proofs.YtbmhfmkfkdbmdaaW.PrintLast Go.Proofs.YtbmhfmkfkdbmdaaW.PrintMore Go.Proofs.Ytbmhfmkfkdbmdaa.DskR Go.Proofs.Ytbmhfmkfkdbmdaa.DskQ
set_option linter.unusedVariables false
section
variable {w : World} {B D : Nat} {vs vq : Value} {x : Dk}
theorem ne_own_s (h : IsD w B D vs vq x) {b0 : Nat} (h0 : w.heap[b0]? = some (.cells #[.pointer (some ⟨D, 0, none⟩)] 25 (0, 0))) : vs.ownBlock ≠ some b0 := fun e => DskW.ne_own h.rs h0 (by decide) e.symm
set_option maxHeartbeats 4000000 in
set_option maxRecDepth 100000 in
theorem clo (hD : IsD w B D vs vq x) (hB : B ≤ w.heap.size) (hq : x.q.length < 1000000) (hg : ∀ p ∈ x.q, 0 ≤ p.1 ∧ p.1 < x.s.length) {b0 : Nat} (h0 : w.heap[b0]? = some (.cells #[.pointer (some ⟨D, 0, none⟩)] 25 (0, 0))) :
    Calls Try.prog 43 #[.pointer (some ⟨b0, 0, none⟩)] w fun e w' => e = .returned (.tuple #[]) ∧ Post w B D vs vq { x with s := putAll x.s x.q, q := [] } w' := by
  obtain ⟨A, c, rfl⟩ := DskV.form hD.rq
  obtain ⟨⟨c0, c1, c2, c3, c4⟩, f0, f1, f2, f3, f4⟩ := hD.cells
  have a0 : w.cell? ⟨b0, 0, none⟩ = some (.pointer (some ⟨D, 0, none⟩)) := (blk_cell h0 0).trans rfl
  have HD := Aside0.mk hD
  have H0 := Aside0.mk h0
  have HQ := Aside0.mk hq
  have HG := Aside0.mk hg
  have HS := Aside0.mk (ne_own_s hD h0)
  have HF := Aside0.mk (Fr.refl w (own D vs (.slice A x.q.length c)))
  clear hD h0 hq hg
  go_enter Try.func43, Try.ntmps43
  go_wp2_with fail
  go_loopg [8] (x.q.length + 1) (fun gk v8 w' => ∃ (i : Nat) (s' : List ByteArray), v8 = .int .i64 (i : Int) ∧ Aside0 (gk + i = x.q.length + 1) ∧ Aside0 (s'.length = x.s.length) ∧ Aside0 (putAll s' (x.q.drop i) = putAll x.s x.q) ∧ Aside0 (IsD w' B D vs (.slice A x.q.length c) { x with s := s' }) ∧ Aside0 (Fr w w' (own D vs (.slice A x.q.length c))) ∧ Aside0 (w'.heap[b0]? = some (.cells #[.pointer (some ⟨D, 0, none⟩)] 25 (0, 0))))
  case atStart => exact ⟨0, x.s, rfl, ⟨rfl⟩, ⟨rfl⟩, ⟨rfl⟩, HD, HF, H0⟩
  case round =>
    clear HD HF H0 a0 c0 c1 c2 c3 c4 f0 f1 f2 f3 f4
    obtain ⟨i, s', rfl, HK, HL, HP, HD, HF, H0⟩ := hrel
    obtain ⟨⟨c0, c1, c2, c3, c4⟩, f0, f1, f2, f3, f4⟩ := HD.out.cells
    have a0 : wr.cell? ⟨b0, 0, none⟩ = some (.pointer (some ⟨D, 0, none⟩)) := (blk_cell H0.out 0).trans rfl
    by_cases hi : i < x.q.length
    · have q0 : decide ((i : Int) < (x.q.length : Int)) = true := decide_eq_true (by omega)
      obtain ⟨gq, cq, hv, _, hgq⟩ := World.ownsRow.form HD.out.rq (show 0 < x.q.length by omega)
      simp only [Value.slice.injEq, true_and] at hv
      obtain ⟨rfl, rfl⟩ := hv
      have HI := Aside0.mk hi
      obtain ⟨k0, k1⟩ := rowQ HD.out.rq i hi
      have HPD := Aside0.mk (drop_at x.q i hi)
      have hpm := HG.out (x.q.getD i z0) (by rw [List.getD_eq_getElem?_getD, List.getElem?_eq_getElem hi]; exact List.getElem_mem hi)
      obtain ⟨p, hp⟩ : ∃ p, p = x.q.getD i z0 := ⟨_, rfl⟩
      rw [← hp] at k0 k1 HPD hpm
      clear hp
      obtain ⟨pa, pt⟩ := p
      simp only at k0 k1 HPD hpm
      rw [← HL.out] at hpm
      obtain ⟨gs, cs, hvs, _, hgs⟩ := World.ownsRow.form HD.out.rs (show 0 < s'.length by omega)
      subst hvs
      have q1 : (0 ≤ (i : Int)) = True := eq_true (by omega)
      have q2 : ((i : Int) < (x.q.length : Int)) = True := eq_true (by omega)
      have HPM := Aside0.mk hpm
      cases gk with
      | zero => exact absurd HK.out (by omega)
      | succ k1_ =>
      clear hi hgq hgs hpm
      go_wp2_with fail
      obtain ⟨w1, hw1⟩ : ∃ w1, w1 = wr.alloc (.cells #[.int .i64 pa, .string pt] 76) := ⟨_, rfl⟩
      obtain ⟨gb, hgb⟩ : ∃ gb, gb = wr.heap.size := ⟨_, rfl⟩
      have HD1 : Aside0 (IsD w1 B D _ _ _) := Aside0.mk (by rw [hw1]; exact HD.out.alloc _)
      have H01 : Aside0 (w1.heap[b0]? = some (.cells #[.pointer (some ⟨D, 0, none⟩)] 25 (0, 0))) := Aside0.mk (by rw [hw1]; exact blk_alloc H0.out _)
      have HF1 : Aside0 (Fr w w1 _) := Aside0.mk (by rw [hw1]; exact HF.out.alloc _)
      have hb : w1.heap[gb]? = some (.cells #[.int .i64 pa, .string pt] 76 (0, 0)) := by rw [hw1, hgb]; exact blk_new _ _
      rw [← hw1, ← hgb]
      have d0 := HD1.out.cells.1.1
      have d1 : w1.cell? ⟨b0, 0, none⟩ = some (.pointer (some ⟨D, 0, none⟩)) := (blk_cell H01.out 0).trans rfl
      have d2 : w1.cell? ⟨gb, 0, none⟩ = some (.int .i64 pa) := (blk_cell hb 0).trans rfl
      have d3 : w1.cell? ⟨gb, 1, none⟩ = some (.string pt) := (blk_cell hb 1).trans rfl
      obtain ⟨j0, j1⟩ := rowS HD1.out.rs pa.toNat (by have := HPM.out; omega)
      have j0' : w1.drew.cell? ⟨gs, pa.toNat, none⟩ = _ := j0
      have j1' : w1.drew.frozen? ⟨gs, pa.toNat, none⟩ = _ := j1
      have r1 : (0 ≤ pa) = True := eq_true HPM.out.1
      have r2 : (pa < (s'.length : Int)) = True := eq_true HPM.out.2
      have hn0 : b0 ≠ gs := by
        rintro rfl
        exact ne_own_s HD1.out H01.out rfl
      have HN0 := Aside0.mk hn0
      clear HD H0 HF hw1 hgb hb a0 c0 c1 c2 c3 c4 f0 f1 f2 f3 f4 k0 k1 q0 q1 q2 hn0 j0 j1
      refine start_ (n := 10) (S := (fun w' => w'.cell? ⟨b0, 0, none⟩ = some (.pointer (some ⟨D, 0, none⟩)) ∧ w'.cell? ⟨D, 0, none⟩ = some (.slice (some ⟨gs, 0, none⟩) s'.length cs) ∧ w'.cell? ⟨gb, 0, none⟩ = some (.int .i64 pa) ∧ w'.cell? ⟨gb, 1, none⟩ = some (.string pt))) (ds := [9]) #[false, false, false, false, false, false, false, false, false, false] (by kernel_rfl) rfl rfl ⟨d1, d0, d2, d3⟩ (fun hHeld => ?_)
      refine take_ (i := 0) (N := (some 12)) (v := ?_) (a' := ?_) #[true, false, false, false, false, false, false, false, false, false] rfl rfl (by kernel_rfl) (fun _ _ _ h => h) (Or.inl ⟨by rfl, ?_⟩) hHeld ?_ ?_
      rotate_left
      · rintro w' ⟨s0, s1, s2, s3⟩
        go_simp
        with_reducible rfl
      rotate_left
      · simp only [Act.put, List.setIfInBounds_toArray, List.set_cons_zero, List.set_cons_succ]
        rfl
      refine pure_ (i := 1) (N := (some 13)) (v := ?_) (a' := ?_) #[true, true, false, false, false, false, false, false, false, false] rfl rfl (by kernel_rfl) (fun _ _ _ h => h) (Or.inl ⟨by rfl, ?_⟩) ?_ ?_
      rotate_left
      · intro w'
        go_simp
        with_reducible rfl
      rotate_left
      · simp only [Act.put, List.setIfInBounds_toArray, List.set_cons_zero, List.set_cons_succ]
        rfl
      refine pure_ (i := 2) (N := (some 14)) (v := ?_) (a' := ?_) #[true, true, true, false, false, false, false, false, false, false] rfl rfl (by kernel_rfl) (fun _ _ _ h => h) (Or.inl ⟨by rfl, ?_⟩) ?_ ?_
      rotate_left
      · intro w'
        go_simp
        with_reducible rfl
      rotate_left
      · simp only [Act.put, List.setIfInBounds_toArray, List.set_cons_zero, List.set_cons_succ]
        rfl
      refine take_ (i := 3) (N := (some 15)) (v := ?_) (a' := ?_) #[true, true, true, true, false, false, false, false, false, false] rfl rfl (by kernel_rfl) (fun _ _ _ h => h) (Or.inl ⟨by rfl, ?_⟩) hHeld ?_ ?_
      rotate_left
      · rintro w' ⟨s0, s1, s2, s3⟩
        go_simp
        with_reducible rfl
      rotate_left
      · simp only [Act.put, List.setIfInBounds_toArray, List.set_cons_zero, List.set_cons_succ]
        rfl
      refine pure_ (i := 4) (N := (some 16)) (v := ?_) (a' := ?_) #[true, true, true, true, true, false, false, false, false, false] rfl rfl (by kernel_rfl) (fun _ _ _ h => h) (Or.inl ⟨by rfl, ?_⟩) ?_ ?_
      rotate_left
      · intro w'
        go_simp
        with_reducible rfl
      rotate_left
      · simp only [Act.put, List.setIfInBounds_toArray, List.set_cons_zero, List.set_cons_succ]
        rfl
      refine take_ (i := 5) (N := (some 17)) (v := ?_) (a' := ?_) #[true, true, true, true, true, true, false, false, false, false] rfl rfl (by kernel_rfl) (fun _ _ _ h => h) (Or.inl ⟨by rfl, ?_⟩) hHeld ?_ ?_
      rotate_left
      · rintro w' ⟨s0, s1, s2, s3⟩
        go_simp
        with_reducible rfl
      rotate_left
      · simp only [Act.put, List.setIfInBounds_toArray, List.set_cons_zero, List.set_cons_succ]
        rfl
      refine pure_ (i := 6) (N := (some 18)) (v := ?_) (a' := ?_) #[true, true, true, true, true, true, true, false, false, false] rfl rfl (by kernel_rfl) (fun _ _ _ h => h) (Or.inl ⟨by rfl, ?_⟩) ?_ ?_
      rotate_left
      · intro w'
        go_simp
        with_reducible rfl
      rotate_left
      · simp only [Act.put, List.setIfInBounds_toArray, List.set_cons_zero, List.set_cons_succ]
        rfl
      refine take_ (i := 7) (N := (some 19)) (v := ?_) (a' := ?_) #[true, true, true, true, true, true, true, true, false, false] rfl rfl (by kernel_rfl) (fun _ _ _ h => h) (Or.inl ⟨by rfl, ?_⟩) hHeld ?_ ?_
      rotate_left
      · rintro w' ⟨s0, s1, s2, s3⟩
        go_simp
        with_reducible rfl
      rotate_left
      · simp only [Act.put, List.setIfInBounds_toArray, List.set_cons_zero, List.set_cons_succ]
        rfl
      refine pure_ (i := 8) (N := (some 20)) (v := ?_) (a' := ?_) #[true, true, true, true, true, true, true, true, true, false] rfl rfl (by kernel_rfl) (fun _ _ _ h => h) (Or.inl ⟨by rfl, ?_⟩) ?_ ?_
      rotate_left
      · intro w'
        go_simp
        with_reducible rfl
      rotate_left
      · simp only [Act.put, List.setIfInBounds_toArray, List.set_cons_zero, List.set_cons_succ]
        rfl
      refine last_ (i := 9) (N := none) #[true, true, true, true, true, true, true, true, true, true] rfl rfl (by kernel_rfl) (by decide) (fun K hK => ?_)
      refine skip_ (w1 := ?_) (by rfl) rfl ?_ ?_
      rotate_left
      · go_simp
        rfl
      refine hK.out _ _ ?_
      clear hK K
      refine done_ (by kernel_rfl) ?_
      go_wp2_with fail
      go_roundg k1_
      case measure => omega
      case rel => exact ⟨i + 1, s'.set pa.toNat pt, by rw [← w_succ i (Nat.lt_trans HI.out (Nat.lt_of_lt_of_le HQ.out (by decide)))], ⟨by have := HK.out; omega⟩, ⟨by rw [List.length_set]; exact HL.out⟩, ⟨by have := HP.out; rw [HPD.out] at this; exact this⟩, ⟨by have := put (x := { x with s := s' }) HD1.out.drew pa.toNat pt; simp only [List.length_set] at this; exact this⟩, ⟨HF1.out.drew.set _ _ (.inl (.inr (.inl rfl)))⟩, ⟨blk_far H01.out (show b0 ≠ gs from HN0.out) _⟩⟩
    · have q0 : decide ((i : Int) < (x.q.length : Int)) = false := decide_eq_false (by omega)
      have hdr : x.q.drop i = [] := List.drop_eq_nil_of_le (by omega)
      have hs : s' = putAll x.s x.q := by have := HP.out; rw [hdr] at this; exact this
      have hni : (i < x.q.length) = False := eq_false hi
      clear hi hdr
      go_wp2_with fail
      go_end0
      subst hs
      exact ⟨rfl, vs, .slice none 0 0, HD.out.setQ (l := []) (World.ownsRow_nil _ _ _ _) (by simp [Value.ownBlock]), HF.out.set _ _ (.inl (.inl rfl)), fun k hk => hk.elim (fun e => .inl (.inl e)) (fun q => q.elim (fun q => .inl (.inr (.inl q))) (fun q => by simp [Value.ownBlock] at q))⟩
end
end Go.Proofs.Ytbmhfmkfkdbmdaa.DskS
end

section
/-
  The library contracts of strings.Join, strings.Repeat, slices.Clone and slices.ContainsFunc (of strings), laid at this program.
-/
namespace Go.Proofs
open Go.Shelf
def Try.lays156_ren : Go.Shelf.Ren := ⟨fun | 156 => 61 | 165 => 57 | 166 => 58 | 169 => 60 | 240 => 68 | 241 => 69 | 276 => 71 | 277 => 72 | n => n, fun | 31 => 47 | 9 => 9 | 3 => 3 | 4 => 4 | 0 => 0 | 20 => 20 | 72 => 90 | 76 => 93 | 70 => 88 | 37 => 23 | 75 => 92 | 127 => 108 | 164 => 110 | 5 => 5 | 80 => 95 | n => n, fun | n => n⟩
theorem Try.lays156 : Go.Proofs.Lays.n156 Try.prog Try.lays156_ren := {
  mixed := by kernel_rfl
  f156 := Try.func61.trans (congrArg some (by kernel_rfl))
  f165 := Try.func57.trans (congrArg some (by kernel_rfl))
  f166 := Try.func58.trans (congrArg some (by kernel_rfl))
  f169 := Try.func60.trans (congrArg some (by kernel_rfl))
  f240 := Try.func68.trans (congrArg some (by kernel_rfl))
  f241 := Try.func69.trans (congrArg some (by kernel_rfl))
  f276 := Try.func71.trans (congrArg some (by kernel_rfl))
  f277 := Try.func72.trans (congrArg some (by kernel_rfl))
  t0 := Try.underlying0
  a0 := Try.isAgg0
  z0 := Try.sizeOf0
  v0 := Try.zeroValue0
  t3 := Try.underlying3
  a3 := Try.isAgg3
  z3 := Try.sizeOf3
  v3 := Try.zeroValue3
  t4 := Try.underlying4
  a4 := Try.isAgg4
  z4 := Try.sizeOf4
  v4 := Try.zeroValue4
  t9 := Try.underlying9
  a9 := Try.isAgg9
  z9 := Try.sizeOf9
  v9 := Try.zeroValue9
  t20 := Try.underlying20
  a20 := Try.isAgg20
  z20 := Try.sizeOf20
  v20 := Try.zeroValue20
  t31 := Try.underlying47
  a31 := Try.isAgg47
  z31 := Try.sizeOf47
  v31 := Try.zeroValue47
  t37 := Try.underlying23
  a37 := Try.isAgg23
  z37 := Try.sizeOf23
  v37 := Try.zeroValue23
  t70 := Try.underlying88
  a70 := Try.isAgg88
  z70 := Try.sizeOf88
  v70 := Try.zeroValue88
  t72 := Try.underlying90
  a72 := Try.isAgg90
  z72 := Try.sizeOf90
  v72 := Try.zeroValue90
  t75 := Try.underlying92
  a75 := Try.isAgg92
  z75 := Try.sizeOf92
  v75 := Try.zeroValue92
  t76 := Try.underlying93
  a76 := Try.isAgg93
  z76 := Try.sizeOf93
  v76 := Try.zeroValue93
  t127 := Try.underlying108
  a127 := Try.isAgg108
  z127 := Try.sizeOf108
  v127 := Try.zeroValue108
  t164 := Try.underlying110
  a164 := Try.isAgg110
  z164 := Try.sizeOf110
  v164 := Try.zeroValue110 }
theorem Try.Builder_Extra_156 : Builder.Extra Try.prog Try.lays156_ren := {
  sizeBuilder := by kernel_rfl
  liesBuilder := by kernel_rfl
  t5 := Try.underlying5
  a5 := Try.isAgg5
  z5 := Try.sizeOf5
  v5 := Try.zeroValue5
  infoByte := by kernel_rfl
  cellsByte := by kernel_rfl
  sizeByte := by kernel_rfl
  neB5 := by decide }
open Go.RowKit in
theorem Try.strings_Join (bk o c : Nat) (xs : List ByteArray) (sep : ByteArray) (w : World) (hcells : ∀ (j : Nat) x, xs[j]? = some x → w.cell? ⟨bk, o + j, none⟩ = some (.string x)) (hbk : bk < w.heap.size) (hN : xs.length ≤ 140737488355328) (hcap : xs.length ≤ c) (hlen : (Lib.join (xs.map (·.data.toList)) sep.data.toList).length ≤ 140737488355328) :
    Calls Try.prog 61 #[.slice (some ⟨bk, o, none⟩) xs.length c, .string sep] w fun e w' => e = .returned (.string ⟨(Lib.join (xs.map (·.data.toList)) sep.data.toList).toArray⟩) ∧ Below w.heap.size w w' := Any.strings_Join Try.lays156 Try.Builder_Extra_156 bk o c xs sep w hcells hbk hN hcap hlen
def Try.lays105_ren : Go.Shelf.Ren := ⟨fun | 105 => 40 | 212 => 55 | 99 => 56 | 165 => 57 | 166 => 58 | 170 => 59 | 169 => 60 | 263 => 65 | 264 => 66 | 206 => 67 | 240 => 68 | 241 => 69 | 276 => 71 | 277 => 72 | n => n, fun | 9 => 9 | 3 => 3 | 4 => 4 | 20 => 20 | 0 => 0 | 46 => 38 | 109 => 85 | 5 => 5 | 72 => 90 | 76 => 93 | 51 => 44 | 146 => 103 | 53 => 105 | 148 => 106 | 70 => 88 | 37 => 23 | 75 => 92 | 127 => 108 | 164 => 110 | 80 => 95 | n => n, fun | n => n⟩
theorem Try.lays105 : Go.Proofs.Lays.n105 Try.prog Try.lays105_ren := {
  mixed := by kernel_rfl
  f99 := Try.func56.trans (congrArg some (by kernel_rfl))
  f105 := Try.func40.trans (congrArg some (by kernel_rfl))
  f165 := Try.func57.trans (congrArg some (by kernel_rfl))
  f166 := Try.func58.trans (congrArg some (by kernel_rfl))
  f169 := Try.func60.trans (congrArg some (by kernel_rfl))
  f170 := Try.func59.trans (congrArg some (by kernel_rfl))
  f206 := Try.func67.trans (congrArg some (by kernel_rfl))
  f212 := Try.func55.trans (congrArg some (by kernel_rfl))
  f240 := Try.func68.trans (congrArg some (by kernel_rfl))
  f241 := Try.func69.trans (congrArg some (by kernel_rfl))
  f263 := Try.func65.trans (congrArg some (by kernel_rfl))
  f264 := Try.func66.trans (congrArg some (by kernel_rfl))
  f276 := Try.func71.trans (congrArg some (by kernel_rfl))
  f277 := Try.func72.trans (congrArg some (by kernel_rfl))
  t0 := Try.underlying0
  a0 := Try.isAgg0
  z0 := Try.sizeOf0
  v0 := Try.zeroValue0
  t3 := Try.underlying3
  a3 := Try.isAgg3
  z3 := Try.sizeOf3
  v3 := Try.zeroValue3
  t4 := Try.underlying4
  a4 := Try.isAgg4
  z4 := Try.sizeOf4
  v4 := Try.zeroValue4
  t5 := Try.underlying5
  a5 := Try.isAgg5
  z5 := Try.sizeOf5
  v5 := Try.zeroValue5
  t9 := Try.underlying9
  a9 := Try.isAgg9
  z9 := Try.sizeOf9
  v9 := Try.zeroValue9
  t20 := Try.underlying20
  a20 := Try.isAgg20
  z20 := Try.sizeOf20
  v20 := Try.zeroValue20
  t37 := Try.underlying23
  a37 := Try.isAgg23
  z37 := Try.sizeOf23
  v37 := Try.zeroValue23
  t46 := Try.underlying38
  a46 := Try.isAgg38
  z46 := Try.sizeOf38
  v46 := Try.zeroValue38
  t51 := Try.underlying44
  a51 := Try.isAgg44
  z51 := Try.sizeOf44
  v51 := Try.zeroValue44
  t53 := Try.underlying105
  a53 := Try.isAgg105
  z53 := Try.sizeOf105
  v53 := Try.zeroValue105
  t70 := Try.underlying88
  a70 := Try.isAgg88
  z70 := Try.sizeOf88
  v70 := Try.zeroValue88
  t72 := Try.underlying90
  a72 := Try.isAgg90
  z72 := Try.sizeOf90
  v72 := Try.zeroValue90
  t75 := Try.underlying92
  a75 := Try.isAgg92
  z75 := Try.sizeOf92
  v75 := Try.zeroValue92
  t76 := Try.underlying93
  a76 := Try.isAgg93
  z76 := Try.sizeOf93
  v76 := Try.zeroValue93
  t109 := Try.underlying85
  a109 := Try.isAgg85
  z109 := Try.sizeOf85
  v109 := Try.zeroValue85
  t127 := Try.underlying108
  a127 := Try.isAgg108
  z127 := Try.sizeOf108
  v127 := Try.zeroValue108
  t146 := Try.underlying103
  a146 := Try.isAgg103
  z146 := Try.sizeOf103
  v146 := Try.zeroValue103
  t148 := Try.underlying106
  a148 := Try.isAgg106
  z148 := Try.sizeOf106
  v148 := Try.zeroValue106
  t164 := Try.underlying110
  a164 := Try.isAgg110
  z164 := Try.sizeOf110
  v164 := Try.zeroValue110 }
theorem Try.Builder_Extra_105 : Builder.Extra Try.prog Try.lays105_ren := {
  sizeBuilder := by kernel_rfl
  liesBuilder := by kernel_rfl
  t5 := Try.underlying5
  a5 := Try.isAgg5
  z5 := Try.sizeOf5
  v5 := Try.zeroValue5
  infoByte := by kernel_rfl
  cellsByte := by kernel_rfl
  sizeByte := by kernel_rfl
  neB5 := by decide }
open Go.RowKit Go.Lib in
theorem Try.strings_Repeat (s : ByteArray) (c : Nat) (w : World) (hc : c ≤ 9223372036854775807) (hlen : s.size * c ≤ 140737488355328) :
    Calls Try.prog 40 #[.string s, .int .i64 c] w fun e w' => e = .returned (.string ⟨(Lib.repeatL s.data.toList c).toArray⟩) ∧ Below w.heap.size w w' := Any.strings_Repeat Try.lays105 Try.Builder_Extra_105 s c w hc hlen
def Try.laysNm216_ren : Go.Shelf.Ren := ⟨fun | 16 => 49 | n => n, fun | 24 => 47 | 9 => 9 | 4 => 4 | n => n, fun | n => n⟩
theorem Try.laysNm216 : Go.Proofs.Lays2.n16 Try.prog Try.laysNm216_ren := {
  mixed := by kernel_rfl
  f16 := Try.func49.trans (congrArg some (by kernel_rfl))
  t4 := Try.underlying4
  a4 := Try.isAgg4
  z4 := Try.sizeOf4
  v4 := Try.zeroValue4
  t9 := Try.underlying9
  a9 := Try.isAgg9
  z9 := Try.sizeOf9
  v9 := Try.zeroValue9
  t24 := Try.underlying47
  a24 := Try.isAgg47
  z24 := Try.sizeOf47
  v24 := Try.zeroValue47
  i9 := by kernel_rfl }
open Go.RowKit Go.Lib in
theorem Try.slices_Clone_string (b off n c : Nat) (zs : List ByteArray) (w : World) (hz : n ≤ zs.length) (hbig : n * 16 ≤ 140737488355328) (hc : ∀ j, j < zs.length → w.cell? ⟨b, off + j, none⟩ = some (.string (zs.getD j ByteArray.empty))) :
    Calls Try.prog 49 #[.slice (some ⟨b, off, none⟩) n c] w fun e w' => ∃ v', e = .returned v' ∧ w'.ownsRow w.heap.size 9 1 v' n ((zs.take n).map (Value.string)) ∧ v' ≠ .slice none 0 0 ∧ Below w.heap.size w w' := Any.slices_Clone_string Try.laysNm216 b off n c zs w hz hbig hc
open Go.RowKit Go.Lib in
theorem Try.slices_Clone_string_nil (n c : Nat) (w : World) :
    Calls Try.prog 49 #[.slice none n c] w fun e w' => e = .returned (.slice none 0 0) ∧ w' = w := Any.slices_Clone_string_nil Try.laysNm216 n c w
open Go.RowKit Go.Lib in
theorem Try.slices_Clone_string_zero (a : Addr) (c : Nat) (w : World) :
    Calls Try.prog 49 #[.slice (some a) 0 c] w fun e w' => ∃ v', e = .returned v' ∧ w'.ownsRow w.heap.size 9 1 v' 0 [] ∧ v' ≠ .slice none 0 0 ∧ Below w.heap.size w w' := Any.slices_Clone_string_zero Try.laysNm216 a c w
def Try.laysSlH8_f47_ren : Go.Shelf.Ren := ⟨fun | 8 => 47 | 6 => 63 | n => n, fun | 22 => 47 | 23 => 9 | 25 => 81 | 4 => 4 | 3 => 3 | 0 => 0 | n => n, fun | n => n⟩
theorem Try.laysSlH8_f47 : Go.Proofs.SlLaysH.n8 Try.prog Try.laysSlH8_f47_ren := {
  mixed := by kernel_rfl
  f6 := ⟨Try.f63.name, by decide, Try.func63.trans (congrArg some (by kernel_rfl))⟩
  f8 := ⟨Try.f47.name, by decide, Try.func47.trans (congrArg some (by kernel_rfl))⟩
  t0 := Try.underlying0
  a0 := Try.isAgg0
  z0 := Try.sizeOf0
  v0 := Try.zeroValue0
  t3 := Try.underlying3
  a3 := Try.isAgg3
  z3 := Try.sizeOf3
  v3 := Try.zeroValue3
  t4 := Try.underlying4
  a4 := Try.isAgg4
  z4 := Try.sizeOf4
  v4 := Try.zeroValue4
  t22 := Try.underlying47
  a22 := Try.isAgg47
  z22 := Try.sizeOf47
  v22 := Try.zeroValue47
  a23 := Try.isAgg9
  z23 := Try.sizeOf9
  t25 := Try.underlying81
  a25 := Try.isAgg81
  z25 := Try.sizeOf81
  v25 := Try.zeroValue81 }
open Go.RowKit Go.Lib in
theorem Try.slices_ContainsFunc {α : Type} [Inhabited α] (enc : α → Value) (p : α → Bool) (g : Nat) (lb : Array Value) (eg : ∀ args w, (callFunc g args).run Try.prog w = .ok (.enter g args) w) (b off n c : Nat) (zs : List α) (w : World) (hp : PredAt Try.prog g lb enc p w) (hz : n ≤ zs.length) (hbig : n ≤ 9223372036854775807) (hc : ∀ j, j < zs.length → w.cell? ⟨b, off + j, none⟩ = some (enc zs[j]!)) :
    Calls Try.prog 47 #[.slice (some ⟨b, off, none⟩) n c, .func (.func g) #[] lb] w fun e w' => e = .returned (.bool ((zs.take n).any p)) ∧ ∃ q, w' = w.drewN q := AnyE.slices_ContainsFunc Try.laysSlH8_f47 enc p g lb eg b off n c zs w hp hz hbig hc
open Go.RowKit Go.Lib in
theorem Try.slices_ContainsFunc_empty {α : Type} [Inhabited α] (a : Option Addr) (c : Nat) (fv : Value) (w : World) :
    Calls Try.prog 47 #[.slice a 0 c, fv] w fun e w' => e = .returned (.bool false) ∧ w' = w := AnyE.slices_ContainsFunc_empty Try.laysSlH8_f47 a c fv w
end Go.Proofs
end

section
/-
  A disk's Grow: its closure.
-/
namespace Go.Proofs.Ytbmhfmkfkdbmdaa.DskG
open Go.RowKit Go.Proofs.YtbmhfmkfkdbmdaaW.PrintWords Go.Proofs.YtbmhfmkfkdbmdaaW.PrintLast Go.Proofs.YtbmhfmkfkdbmdaaW.PrintMore Go.Proofs.Ytbmhfmkfkdbmdaa.DskR Go.Proofs.Ytbmhfmkfkdbmdaa.DskQ
set_option linter.unusedVariables false
/-- A page of noughts. -/
def pg0 : ByteArray := ⟨(Lib.repeatL [0] 256).toArray⟩
theorem sC_snoc (l : List ByteArray) (p : ByteArray) : sC (l ++ [p]) = sC l ++ [Value.string p] := by simp [sC]
section
variable {w : World} {B D : Nat} {vs vq : Value} {x : Dk}
set_option maxHeartbeats 8000000 in
set_option maxRecDepth 100000 in
theorem clo (hD : IsD w B D vs vq x) (hB : B ≤ w.heap.size) (n : Nat) (hn : n < 1000000) (hx : x.s.length < 1000000) {b0 b1 : Nat} (h0 : w.heap[b0]? = some (.cells #[.pointer (some ⟨D, 0, none⟩)] 25 (0, 0))) (h1 : w.heap[b1]? = some (.cells #[.int .i64 (n : Int)] 3 (0, 0))) :
    Calls Try.prog 39 #[.pointer (some ⟨b0, 0, none⟩), .pointer (some ⟨b1, 0, none⟩)] w fun e w' => e = .returned (.tuple #[]) ∧ Post w B D vs vq { x with s := x.s ++ List.replicate (n - x.s.length) pg0 } w' := by
  obtain ⟨i0, hi, hi0, hi1, hi2⟩ := info_parts (show (Try.prog.info? 9).map (fun i => (i.zero, i.size, i.bytes)) = some (some (.string (⟨#[]⟩ : ByteArray)), 1, 16) by kernel_rfl)
  have HD := Aside0.mk hD
  have H0 := Aside0.mk h0
  have H1 := Aside0.mk h1
  have HF := Aside0.mk (Fr.refl w (own D vs vq))
  have HZ := Aside0.mk hB
  have HN := Aside0.mk hn
  have HX := Aside0.mk hx
  clear hD h0 h1 hB hn hx
  go_enter Try.func39, Try.ntmps39
  go_wp2_with fail
  go_loopg [] (n - x.s.length + 1) (fun gk w' => ∃ (j : Nat) (vs' : Value), Aside0 (gk + j = n - x.s.length + 1 ∧ j ≤ n - x.s.length) ∧ Aside0 (IsD w' B D vs' vq { x with s := x.s ++ List.replicate j pg0 }) ∧ Aside0 (Fr w w' (own D vs vq)) ∧ Aside0 (∀ k, own D vs' vq k → own D vs vq k ∨ w.heap.size ≤ k) ∧ Aside0 (w'.heap[b0]? = some (.cells #[.pointer (some ⟨D, 0, none⟩)] 25 (0, 0))) ∧ Aside0 (w'.heap[b1]? = some (.cells #[.int .i64 (n : Int)] 3 (0, 0))))
  case atStart => exact ⟨0, vs, ⟨rfl, Nat.zero_le _⟩, ⟨by have := HD.out; simpa using this⟩, HF, ⟨fun k hk => .inl hk⟩, H0, H1⟩
  case round =>
    clear HD HF H0 H1
    obtain ⟨j, vs', HK, HD, HF, HO, H0, H1⟩ := hrel
    obtain ⟨m, hm⟩ : ∃ m, m = x.s.length + j := ⟨_, rfl⟩
    obtain ⟨A, c, hvs⟩ : ∃ A c, vs' = .slice A m c := by
      obtain ⟨A, c, e⟩ := DskV.form HD.out.rs
      exact ⟨A, c, by rw [e, hm]; simp⟩
    subst hvs
    have HM := Aside0.mk hm
    obtain ⟨⟨c0, c1, c2, c3, c4⟩, f0, f1, f2, f3, f4⟩ := HD.out.cells
    have a0 : wr.cell? ⟨b0, 0, none⟩ = some (.pointer (some ⟨D, 0, none⟩)) := (blk_cell H0.out 0).trans rfl
    have a1 : wr.cell? ⟨b1, 0, none⟩ = some (.int .i64 (n : Int)) := (blk_cell H1.out 0).trans rfl
    by_cases hlt : m < n
    · have q0 : decide ((m : Int) < (n : Int)) = true := decide_eq_true (by omega)
      have q1 : (m < n) = True := eq_true hlt
      have HL := Aside0.mk hlt
      cases gk with
      | zero => exact absurd HK.out (by omega)
      | succ k1_ =>
      clear hlt hm
      go_wp2_with fail
      repeat (go_quiet (fail); try go_wp2_with fail)
      obtain ⟨w1, hw1⟩ : ∃ w1, w1 = wr.drewN nq := ⟨_, rfl⟩
      have HD1 : Aside0 (IsD w1.drew B D (.slice A m c) vq { x with s := x.s ++ List.replicate j pg0 }) := Aside0.mk (by rw [hw1]; exact (HD.out.drewN _).drew)
      have HF1 : Aside0 (Fr w w1.drew (own D vs vq)) := Aside0.mk (by rw [hw1]; exact (HF.out.drewN _).drew)
      have H01 : Aside0 (w1.drew.heap[b0]? = some (.cells #[.pointer (some ⟨D, 0, none⟩)] 25 (0, 0))) := Aside0.mk (by rw [hw1]; exact H0.out)
      have H11 : Aside0 (w1.drew.heap[b1]? = some (.cells #[.int .i64 (n : Int)] 3 (0, 0))) := Aside0.mk (by rw [hw1]; exact H1.out)
      rw [← hw1]
      have d0 : w1.drew.cell? ⟨D, 0, none⟩ = some (.slice A m c) := HD1.out.cells.1.1
      have d1 : w1.drew.cell? ⟨b0, 0, none⟩ = some (.pointer (some ⟨D, 0, none⟩)) := (blk_cell H01.out 0).trans rfl
      clear hw1 HD HF H0 H1 c0 c1 c2 c3 c4 f0 f1 f2 f3 f4 a0 a1
      refine start_ (n := 11) (S := (fun w' => w'.cell? ⟨b0, 0, none⟩ = some (.pointer (some ⟨D, 0, none⟩)) ∧ w'.cell? ⟨D, 0, none⟩ = some (.slice A m c))) (ds := [10]) #[false, false, false, false, false, false, false, false, false, false, false] (by kernel_rfl) rfl rfl ⟨d1, d0⟩ (fun hHeld => ?_)
      refine take_ (i := 0) (N := (some 9)) (v := ?_) (a' := ?_) #[true, false, false, false, false, false, false, false, false, false, false] rfl rfl (by kernel_rfl) (fun _ _ _ h => h) (Or.inl ⟨by rfl, ?_⟩) hHeld ?_ ?_
      rotate_left
      · rintro w' ⟨s0, s1⟩
        go_simp
        with_reducible rfl
      rotate_left
      · simp only [Act.put, List.setIfInBounds_toArray, List.set_cons_zero, List.set_cons_succ]
        rfl
      refine take_ (i := 1) (N := (some 10)) (v := ?_) (a' := ?_) #[true, true, false, false, false, false, false, false, false, false, false] rfl rfl (by kernel_rfl) (fun _ _ _ h => h) (Or.inl ⟨by rfl, ?_⟩) hHeld ?_ ?_
      rotate_left
      · rintro w' ⟨s0, s1⟩
        go_simp
        with_reducible rfl
      rotate_left
      · simp only [Act.put, List.setIfInBounds_toArray, List.set_cons_zero, List.set_cons_succ]
        rfl
      refine pure_ (i := 2) (N := (some 11)) (v := ?_) (a' := ?_) #[true, true, true, false, false, false, false, false, false, false, false] rfl rfl (by kernel_rfl) (fun _ _ _ h => h) (Or.inl ⟨by rfl, ?_⟩) ?_ ?_
      rotate_left
      · intro w'
        go_simp
        with_reducible rfl
      rotate_left
      · simp only [Act.put, List.setIfInBounds_toArray, List.set_cons_zero, List.set_cons_succ]
        rfl
      refine pure_ (i := 3) (N := (some 12)) (v := ?_) (a' := ?_) #[true, true, true, true, false, false, false, false, false, false, false] rfl rfl (by kernel_rfl) (fun _ _ _ h => h) (Or.inl ⟨by rfl, ?_⟩) ?_ ?_
      rotate_left
      · intro w'
        go_simp
        with_reducible rfl
      rotate_left
      · simp only [Act.put, List.setIfInBounds_toArray, List.set_cons_zero, List.set_cons_succ]
        rfl
      refine take_ (i := 4) (N := (some 13)) (v := ?_) (a' := ?_) #[true, true, true, true, true, false, false, false, false, false, false] rfl rfl (by kernel_rfl) (fun _ _ _ h => h) (Or.inl ⟨by rfl, ?_⟩) hHeld ?_ ?_
      rotate_left
      · rintro w' ⟨s0, s1⟩
        go_simp
        with_reducible rfl
      rotate_left
      · simp only [Act.put, List.setIfInBounds_toArray, List.set_cons_zero, List.set_cons_succ]
        rfl
      refine one_ (i := 5) (N := some 14) #[true, true, true, true, true, true, false, false, false, false, false] rfl rfl (by kernel_rfl) (by decide) (fun K hK => ?_)
      refine goes_ Try.func40 (by kernel_rfl) rfl #[.string (⟨#[0]⟩ : ByteArray), .int .i64 256] (by rfl) rfl rfl (by (try simp only [List.map_toArray, List.map_cons, List.map_nil]); first | done | rfl) ?_
      refine (Try.strings_Repeat (⟨#[0]⟩ : ByteArray) 256 _ (by decide) (by decide)).mono ?_
      rintro e w2 ⟨rfl, hb⟩
      refine ⟨_, rfl, ?_⟩
      rw [show (⟨(Lib.repeatL (⟨#[0]⟩ : ByteArray).data.toList 256).toArray⟩ : ByteArray) = pg0 from rfl]
      have HD2 := Aside0.mk (HD1.out.below hb)
      have HF2 := Aside0.mk (HF1.out.trans (Fr.of_below (S := own D vs vq) hb) (fun k hk => .inl hk))
      have H02 := Aside0.mk ((hb.block b0 (blk_lt H01.out)).trans H01.out)
      have H12 := Aside0.mk ((hb.block b1 (blk_lt H11.out)).trans H11.out)
      clear HD1 HF1 H01 H11 d0 d1 hb
      have d0 : w2.cell? ⟨D, 0, none⟩ = some (.slice A m c) := HD2.out.cells.1.1
      have d1 : w2.cell? ⟨b0, 0, none⟩ = some (.pointer (some ⟨D, 0, none⟩)) := (blk_cell H02.out 0).trans rfl
      refine hK.out _ _ ⟨d1, d0⟩ (fun hHeld => ?_)
      clear hK K
      refine norm_ (a' := ?_) ?_ ?_
      rotate_left
      · show Act.put _ (some 14) _ = _
        simp only [Act.put, List.setIfInBounds_toArray, List.set_cons_zero, List.set_cons_succ]
        rfl
      refine one_ (i := 6) (N := some 15) #[true, true, true, true, true, true, true, false, false, false, false] rfl rfl (by kernel_rfl) (by decide) (fun K hK => ?_)
      refine event_step (v := .slice (some ⟨w2.heap.size, 0, none⟩) 1 1) (w1 := w2.alloc (.cells #[.string pg0] 9)) (by rfl) (by go_simp) ?_
      obtain ⟨w3, hw3⟩ : ∃ w3, w3 = w2.alloc (.cells #[.string pg0] 9) := ⟨_, rfl⟩
      have hnw : w3.heap[w2.heap.size]? = some (.cells #[.string pg0] 9 (0, 0)) := by rw [hw3]; exact blk_new _ _
      have HD3 : Aside0 (IsD w3 B D (.slice A m c) vq { x with s := x.s ++ List.replicate j pg0 }) := Aside0.mk (by rw [hw3]; exact HD2.out.alloc _)
      have HF3 : Aside0 (Fr w w3 (own D vs vq)) := Aside0.mk (by rw [hw3]; exact HF2.out.alloc _)
      have H03 : Aside0 (w3.heap[b0]? = some (.cells #[.pointer (some ⟨D, 0, none⟩)] 25 (0, 0))) := Aside0.mk (by rw [hw3]; exact blk_alloc H02.out _)
      have H13 : Aside0 (w3.heap[b1]? = some (.cells #[.int .i64 (n : Int)] 3 (0, 0))) := Aside0.mk (by rw [hw3]; exact blk_alloc H12.out _)
      rw [← hw3]
      obtain ⟨gn, hgn⟩ : ∃ gn, gn = w2.heap.size := ⟨_, rfl⟩
      rw [← hgn] at hnw ⊢
      clear hw3 HD2 HF2 H02 H12 d0 d1 hgn
      have d0 : w3.cell? ⟨D, 0, none⟩ = some (.slice A m c) := HD3.out.cells.1.1
      have d1 : w3.cell? ⟨b0, 0, none⟩ = some (.pointer (some ⟨D, 0, none⟩)) := (blk_cell H03.out 0).trans rfl
      refine hK.out _ _ ⟨d1, d0⟩ (fun hHeld => ?_)
      clear hK K
      refine norm_ (a' := ?_) ?_ ?_
      rotate_left
      · show Act.put _ (some 15) _ = _
        simp only [Act.put, List.setIfInBounds_toArray, List.set_cons_zero, List.set_cons_succ]
        rfl
      have hml : (x.s ++ List.replicate j pg0).length = m := by rw [HM.out]; simp
      have hrow : w3.ownsRow B 9 1 (.slice A m c) m (sC (x.s ++ List.replicate j pg0)) := by have := HD3.out.rs; rw [hml] at this; exact this
      refine one_ (i := 7) (N := some 16) #[true, true, true, true, true, true, true, true, false, false, false] rfl rfl (by kernel_rfl) (by decide) (fun K hK => ?_)
      refine step_append_lies w3 rfl (.tmp 13) (.tmp 15) 47 rfl B 9 i0 _ 1 16 Try.underlying47 hi hi0 hi1 hi2 rfl (by decide) (.slice A m c) m (sC (x.s ++ List.replicate j pg0)) (by rfl) hrow ⟨gn, 0, none⟩ 1 1 [.string pg0] (by rfl) rfl (World.news_of_block hnw) (by simp [Value.oneCell']) (by decide) (by have := HL.out; have := HN.out; unfold maxLen; omega) (by have := HL.out; have := HN.out; omega) (Nat.le_trans HZ.out HF3.out.size) _ rfl ?_
      intro g cap w4 hown hgrow hgb hglt
      have nb0 := DskW.ne_own hrow H03.out (by decide)
      have nb1 := DskW.ne_own hrow H13.out (by decide)
      have nD : some D ≠ (Value.slice A m c).ownBlock := fun q => HD3.out.ns q.symm
      have H04 := Aside0.mk ((hgrow.block b0 (blk_lt H03.out) nb0).trans H03.out)
      have H14 := Aside0.mk ((hgrow.block b1 (blk_lt H13.out) nb1).trans H13.out)
      have hbk := Aside0.mk ((hgrow.block D HD3.out.lt nD).trans HD3.out.blk)
      have hrq := Aside0.mk (HD3.out.rq.kept hgrow (by cases hk : vq.ownBlock with | none => exact .inl rfl | some k => exact .inr (fun q => HD3.out.nsq q.symm hk)))
      have HF4 := Aside0.mk (HF3.out.grown hgrow (fun k hk => HO.out k (.inr (.inl hk))))
      have hgD : g ≠ D := by rintro rfl; exact hgb.elim (fun q => HD3.out.ns q) (fun q => absurd HD3.out.lt (by omega))
      have HGD := Aside0.mk hgD
      have HGB := Aside0.mk hgb
      have HOW := Aside0.mk hown
      have HSZ := Aside0.mk HF3.out.size
      have d0' : w4.cell? ⟨D, 0, none⟩ = some (.slice A m c) := (blk_cell hbk.out 0).trans rfl
      have d1' : w4.cell? ⟨b0, 0, none⟩ = some (.pointer (some ⟨D, 0, none⟩)) := (blk_cell H04.out 0).trans rfl
      have df' : w4.frozen? ⟨D, 0, none⟩ = false := blk_frozen hbk.out 0
      refine hK.out _ _ ⟨d1', d0'⟩ (fun hHeld => ?_)
      clear hK K hgb hown hglt hrow hnw d0 d1 hgD nb0 nb1 nD
      refine norm_ (a' := ?_) ?_ ?_
      rotate_left
      · show Act.put _ (some 16) _ = _
        simp only [Act.put, List.setIfInBounds_toArray, List.set_cons_zero, List.set_cons_succ]
        rfl
      refine pure_ (i := 8) (N := (some 17)) (v := ?_) (a' := ?_) #[true, true, true, true, true, true, true, true, true, false, false] rfl rfl (by kernel_rfl) (fun _ _ _ h => h) (Or.inl ⟨by rfl, ?_⟩) ?_ ?_
      rotate_left
      · intro w'
        go_simp
        with_reducible rfl
      rotate_left
      · simp only [Act.put, List.setIfInBounds_toArray, List.set_cons_zero, List.set_cons_succ]
        rfl
      refine pure_ (i := 9) (N := (some 18)) (v := ?_) (a' := ?_) #[true, true, true, true, true, true, true, true, true, true, false] rfl rfl (by kernel_rfl) (fun _ _ _ h => h) (Or.inl ⟨by rfl, ?_⟩) ?_ ?_
      rotate_left
      · intro w'
        go_simp
        with_reducible rfl
      rotate_left
      · simp only [Act.put, List.setIfInBounds_toArray, List.set_cons_zero, List.set_cons_succ]
        rfl
      refine last_ (i := 10) (N := none) #[true, true, true, true, true, true, true, true, true, true, true] rfl rfl (by kernel_rfl) (by decide) (fun K hK => ?_)
      refine skip_ (w1 := ?_) (by rfl) rfl ?_ ?_
      rotate_left
      · go_simp
        rfl
      refine hK.out _ _ ?_
      clear hK K
      refine done_ (by kernel_rfl) ?_
      go_wp2_with fail
      go_roundg k1_
      case measure => omega
      case rel => exact ⟨j + 1, .slice (some ⟨g, 0, none⟩) (m + 1) cap, ⟨by have := HK.out; have := HM.out; have := HL.out; omega⟩, ⟨blk_put hbk.out 0 _ rfl, HD3.out.ge, ownsRow_setCell_other (by have := HOW.out; rw [← sC_snoc] at this; rw [List.replicate_succ', ← List.append_assoc, List.length_append, hml]; exact this) (show (Value.slice (some ⟨g, 0, none⟩) (m + 1) cap).ownBlock ≠ some D from fun q => HGD.out (Option.some.inj q)) _, ownsRow_setCell_other hrq.out HD3.out.nq _⟩, ⟨HF4.out.set _ _ (.inl (.inl rfl))⟩, ⟨fun k hk => hk.elim (fun e => .inl (.inl e)) (fun q => q.elim (fun q => HGB.out.elim (fun z => HO.out k (.inr (.inl (z.trans q)))) (fun z => .inr (by rw [← Option.some.inj q, z]; exact HSZ.out))) (fun q => .inl (.inr (.inr q))))⟩, ⟨blk_far H04.out (show b0 ≠ D from fun e => by have := H04.out; rw [e, hbk.out] at this; simp at this) _⟩, ⟨blk_far H14.out (show b1 ≠ D from fun e => by have := H14.out; rw [e, hbk.out] at this; simp at this) _⟩⟩
    · have q0 : decide ((m : Int) < (n : Int)) = false := decide_eq_false (by omega)
      have q1 : (m < n) = False := eq_false hlt
      have hj := Aside0.mk (show j = n - x.s.length by have := HK.out; omega)
      clear hlt hm
      go_wp2_with fail
      repeat (go_quiet (fail); try go_wp2_with fail)
      go_end0
      exact ⟨rfl, _, vq, by rw [← hj.out]; exact HD.out.drewN _, HF.out.drewN _, HO.out⟩
end
end Go.Proofs.Ytbmhfmkfkdbmdaa.DskG
end

section
/-
  A disk's Grow.
-/
namespace Go.Proofs.Ytbmhfmkfkdbmdaa.DskH
open Go.RowKit Go.Proofs.YtbmhfmkfkdbmdaaW.PrintWords Go.Proofs.YtbmhfmkfkdbmdaaW.PrintLast Go.Proofs.YtbmhfmkfkdbmdaaW.PrintMore Go.Proofs.Ytbmhfmkfkdbmdaa.DskR
set_option linter.unusedVariables false
attribute [local go_sem] undef
def gr (x : Dk) (n : Int) : Int × Dk :=
  if x.down = true then (2, x) else if n < 0 then (1, x) else if n > x.cap then (3, x) else if x.fuse = 0 then (2, { x with down := true })
    else (0, { x with fuse := if x.fuse > 0 then x.fuse - 1 else x.fuse, s := x.s ++ List.replicate (n.toNat - x.s.length) DskG.pg0 })
section
variable {w : World} {B D : Nat} {vs vq : Value} {x : Dk}
set_option maxHeartbeats 4000000 in
set_option maxRecDepth 100000 in
theorem grow_c (hD : IsD w B D vs vq x) (hB : B ≤ w.heap.size) (hx : x.s.length < 1000000) (hc : x.cap < 1000000) (hu : x.fuse < 9223372036854775808) (n : Int) :
    Calls Try.prog 12 #[.pointer (some ⟨D, 0, none⟩), .int .i64 n] w fun e w' => e = .returned (.int .i64 (gr x n).1) ∧ Post w B D vs vq (gr x n).2 w' := by
  have hmf : ∀ (fn : Fn) (first cap : Array Value) (w : World), (Instr.makeFunc fn first cap).run Try.prog w = .ok (.func fn first cap) w := fun _ _ _ _ => rfl
  obtain ⟨w1, hw1⟩ : ∃ w1, w1 = (w.alloc (.cells #[.pointer (some ⟨D, 0, none⟩)] 25)).alloc (.cells #[.int .i64 n] 3) := ⟨_, rfl⟩
  have hD1 : IsD w1 B D vs vq x := by rw [hw1]; exact (hD.alloc _).alloc _
  have hF1 : Fr w w1 (own D vs vq) := by rw [hw1]; exact ((Fr.refl _ _).alloc _).alloc _
  have hb0 : w1.heap[w.heap.size]? = some (.cells #[.pointer (some ⟨D, 0, none⟩)] 25 (0, 0)) := by rw [hw1]; exact blk_alloc (blk_new _ _) _
  have hb1 : w1.heap[w.heap.size + 1]? = some (.cells #[.int .i64 n] 3 (0, 0)) := by
    rw [hw1]; have := blk_new (w.alloc (.cells #[.pointer (some ⟨D, 0, none⟩)] 25)) (.cells #[.int .i64 n] 3); simpa using this
  have a0 : w1.cell? ⟨w.heap.size, 0, none⟩ = some (.pointer (some ⟨D, 0, none⟩)) := (blk_cell hb0 0).trans rfl
  have a1 : w1.cell? ⟨w.heap.size + 1, 0, none⟩ = some (.int .i64 n) := (blk_cell hb1 0).trans rfl
  obtain ⟨⟨c0, c1, c2, c3, c4⟩, f0, f1, f2, f3, f4⟩ := hD1.cells
  have hsz : w.heap.size ≤ w1.heap.size := hF1.size
  have HD := Aside0.mk hD1
  have HF := Aside0.mk hF1
  have HB0 := Aside0.mk hb0
  have HB1 := Aside0.mk hb1
  have HSZ := Aside0.mk (Nat.le_trans hB hsz)
  have HXL := Aside0.mk hx
  have HC := Aside0.mk hc
  have HU := Aside0.mk hu
  have HX := Aside0.mk hD.lt
  clear hD1 hF1 hb0 hb1 hsz hB hx hc hu hD
  unfold gr
  by_cases hd : x.down = true
  · rw [if_pos hd]
    rw [hd] at c4
    clear hd
    subst hw1
    go_enter Try.func12, Try.ntmps12
    go_wp2_with (go_in)
    go_ret
    exact ⟨rfl, _, _, HD.out, HF.out, fun k hk => .inl hk⟩
  rw [if_neg hd]
  rw [Bool.eq_false_iff.2 hd] at c4
  clear hd
  by_cases hs : n < 0
  · rw [if_pos hs]
    have q1 : decide (n < 0) = true := decide_eq_true hs
    clear hs
    subst hw1
    go_enter Try.func12, Try.ntmps12
    go_wp2_with (go_in)
    go_ret
    exact ⟨rfl, _, _, HD.out, HF.out, fun k hk => .inl hk⟩
  rw [if_neg hs]
  have q1 : decide (n < 0) = false := decide_eq_false hs
  by_cases h0 : n > x.cap
  · rw [if_pos h0]
    have q2 : decide (n > x.cap) = true := decide_eq_true h0
    have q2b : (x.cap < n) = True := eq_true h0
    have q2c : (n ≤ x.cap) = False := eq_false (by omega)
    clear h0 hs
    subst hw1
    go_enter Try.func12, Try.ntmps12
    go_wp2_with (go_in)
    repeat (go_quiet (fail); try go_wp2_with (go_in))
    go_ret
    exact ⟨rfl, _, _, HD.out.drewN _, HF.out.drewN _, fun k hk => .inl hk⟩
  rw [if_neg h0]
  have q2 : decide (n > x.cap) = false := decide_eq_false h0
  have q2b : (x.cap < n) = False := eq_false h0
  have q2c : (n ≤ x.cap) = True := eq_true (by omega)
  have HN := Aside0.mk (show n.toNat < 1000000 by have := HC.out; omega)
  have hnn : n = ((n.toNat : Nat) : Int) := by omega
  have HB1n : Aside0 (w1.heap[w.heap.size + 1]? = some (.cells #[.int .i64 ((n.toNat : Nat) : Int)] 3 (0, 0))) := Aside0.mk (by rw [← hnn]; exact HB1.out)
  clear h0 hs hnn
  by_cases h2 : x.fuse = 0
  · rw [if_pos h2]
    have q4 : (x.fuse == 0) = true := beq_iff_eq.2 h2
    clear h2
    subst hw1
    go_enter Try.func12, Try.ntmps12
    go_wp2_with (go_in)
    repeat (go_quiet (fail); try go_wp2_with (go_in))
    go_ret
    exact ⟨rfl, _, _, (HD.out.drewN _).setDown true, (HF.out.drewN _).set _ _ (.inl (.inl rfl)), fun k hk => .inl hk⟩
  rw [if_neg h2]
  have q4 : (x.fuse == 0) = false := beq_eq_false_iff_ne.2 h2
  by_cases h3 : x.fuse > 0
  · rw [if_pos h3]
    have q5 : decide (x.fuse > 0) = true := decide_eq_true h3
    have q6 : wrap64 (x.fuse - 1) = x.fuse - 1 := by have := HU.out; unfold wrap64; omega
    have HE := Aside0.mk (fun k : Nat => (HD.out.drewN k).setFuse (x.fuse - 1))
    have HE0 : Aside0 (∀ k : Nat, ((w1.drewN k).setCell ⟨D, 3, none⟩ (.int .i64 (x.fuse - 1))).heap[w.heap.size]? = some (.cells #[.pointer (some ⟨D, 0, none⟩)] 25 (0, 0))) := Aside0.mk (fun k => blk_far (show (w1.drewN k).heap[w.heap.size]? = _ from HB0.out) (show w.heap.size ≠ D from Nat.ne_of_gt HX.out) _)
    have HE1 : Aside0 (∀ k : Nat, ((w1.drewN k).setCell ⟨D, 3, none⟩ (.int .i64 (x.fuse - 1))).heap[w.heap.size + 1]? = some (.cells #[.int .i64 ((n.toNat : Nat) : Int)] 3 (0, 0))) := Aside0.mk (fun k => blk_far (show (w1.drewN k).heap[w.heap.size + 1]? = _ from HB1n.out) (show w.heap.size + 1 ≠ D from Nat.ne_of_gt (Nat.lt_succ_of_lt HX.out)) _)
    have HEZ : Aside0 (∀ k : Nat, B ≤ ((w1.drewN k).setCell ⟨D, 3, none⟩ (.int .i64 (x.fuse - 1))).heap.size) := Aside0.mk (fun k => by simpa [World.setCell, World.drewN] using HSZ.out)
    have HEF := Aside0.mk (fun k : Nat => (HF.out.drewN k).set ⟨D, 3, none⟩ (.int .i64 (x.fuse - 1)) (.inl (.inl rfl)))
    clear h2 h3
    subst hw1
    go_enter Try.func12, Try.ntmps12
    go_wp2_with (go_in)
    repeat (go_quiet (fail); try go_wp2_with (first | (go_at_call 39; refine (DskG.clo (HE.out _) (HEZ.out _) n.toNat HN.out HXL.out (HE0.out _) (HE1.out _)).mono ?_; rintro e w2 ⟨rfl, vs2, vq2, p1, p2, p3⟩; have P1 := Aside0.mk p1; have P2 := Aside0.mk p2; have P3 := Aside0.mk p3; clear p1 p2 p3) | go_in))
    go_ret
    exact ⟨rfl, vs2, vq2, P1.out, (HEF.out _).trans P2.out (fun k hk => .inl hk), fun k hk => (P3.out k hk).elim .inl (fun q => .inr (Nat.le_trans (HEF.out 0).size q))⟩
  · rw [if_neg h3]
    have q5 : decide (x.fuse > 0) = false := decide_eq_false h3
    clear h2 h3
    subst hw1
    go_enter Try.func12, Try.ntmps12
    go_wp2_with (go_in)
    repeat (go_quiet (fail); try go_wp2_with (first | (go_at_call 39; refine (DskG.clo (HD.out.drewN _) HSZ.out n.toNat HN.out HXL.out HB0.out HB1n.out).mono ?_; rintro e w2 ⟨rfl, vs2, vq2, p1, p2, p3⟩; have P1 := Aside0.mk p1; have P2 := Aside0.mk p2; have P3 := Aside0.mk p3; clear p1 p2 p3) | go_in))
    go_ret
    exact ⟨rfl, vs2, vq2, P1.out, (HF.out.drewN _).trans P2.out (fun k hk => .inl hk), fun k hk => (P3.out k hk).elim .inl (fun q => .inr (Nat.le_trans HF.out.size q))⟩
end
end Go.Proofs.Ytbmhfmkfkdbmdaa.DskH
end
