import Derived.Test.YtbmhfmkfkdbmdaaDskU
import Derived.RangeFuncNested
import Derived.RangeFuncBound
import Derived.RangeFuncBox
import Derived.RangeFuncCalls
import Derived.RangeFuncLeaves
import Derived.Shelf.Abstract
import Derived.Shelf.RegionOpen
import Derived.WalkKit
import Derived.OwnWalkIn
import Derived.TacticsInMore
import Derived.LoopNIn
import Derived.LoopIn
import Derived.Test.YtbmhfmkfkdbmdaaDskQ
section
/-
  A disk's Crash.
-/
namespace Go.Proofs.Ytbmhfmkfkdbmdaa.DskC
open Go.RowKit Go.Proofs.YtbmhfmkfkdbmdaaW.PrintWords Go.Proofs.YtbmhfmkfkdbmdaaW.PrintLast Go.Proofs.YtbmhfmkfkdbmdaaW.PrintMore Go.Proofs.Ytbmhfmkfkdbmdaa.DskR Go.Proofs.Ytbmhfmkfkdbmdaa.DskQ
set_option linter.unusedVariables false
/-- Torn pages, as far as the choice goes. -/
def tear (s : List ByteArray) : List (Int × ByteArray) → List Int → List ByteArray
  | p :: q, c :: l => tear (s.set p.1.toNat (DskU.tornB (s.getD p.1.toNat e0) p.2 c.toNat)) q l
  | _, _ => s
def crash (x : Dk) (l : List Int) : Dk := ⟨tear x.s x.q l, [], x.cap, -1, false⟩
theorem tear_nil (s : List ByteArray) (q : List (Int × ByteArray)) : tear s q [] = s := by cases q <;> rfl
theorem sec_size (a b : ByteArray) (ha : a.size = 256) (hb : b.size = 256) (c i : Nat) (hi : i < 4) : (DskU.sec a b c i).size = 64 := by
  unfold DskU.sec
  rw [ByteArray.size_extract]
  split <;> omega
theorem torn_size (a b : ByteArray) (ha : a.size = 256) (hb : b.size = 256) (c : Nat) : (DskU.tornB a b c).size = 256 := by
  unfold DskU.tornB
  rw [ByteArray.size_append, ByteArray.size_append, ByteArray.size_append, sec_size a b ha hb c 0 (by decide), sec_size a b ha hb c 1 (by decide), sec_size a b ha hb c 2 (by decide), sec_size a b ha hb c 3 (by decide)]
theorem getD_mem {s : List ByteArray} {i : Nat} (h : i < s.length) : s.getD i e0 ∈ s := by rw [List.getD_eq_getElem?_getD, List.getElem?_eq_getElem h]; exact List.getElem_mem h
/-- As Post, with nothing that waits. -/
def PostN (w : World) (B D : Nat) (vs vq : Value) (x' : Dk) (w' : World) : Prop :=
  ∃ vs', IsD w' B D vs' (.slice none 0 0) x' ∧ Fr w w' (own D vs vq) ∧ ∀ k, own D vs' (.slice none 0 0) k → own D vs vq k ∨ w.heap.size ≤ k
section
variable {w : World} {B D : Nat} {vs vq : Value} {x : Dk}
theorem add_block (ad : Addr) (i : Nat) : (ad.add i).block = ad.block := by unfold Addr.add; split <;> rfl
set_option maxHeartbeats 8000000 in
set_option maxRecDepth 100000 in
theorem crash_c (hD : IsD w B D vs vq x) (hq : x.q.length < 1000000) (hg : ∀ p ∈ x.q, 0 ≤ p.1 ∧ p.1 < x.s.length) (hs6 : ∀ p ∈ x.s, p.size = 256) (hq6 : ∀ p ∈ x.q, p.2.size = 256) (CA : Option Addr) (cc : Nat) (l : List Int) (hl : ∀ c ∈ l, 0 ≤ c ∧ c < 256) (hr : Kd.C (Kd.int .u8) w CA l.length l) (hsep : 0 < l.length → ∀ ad, CA = some ad → ¬ own D vs vq ad.block ∧ ad.block < w.heap.size) :
    Calls Try.prog 16 #[.pointer (some ⟨D, 0, none⟩), .slice CA l.length cc] w fun e w' => e = .returned (.tuple #[]) ∧ PostN w B D vs vq (crash x l) w' := by
  obtain ⟨A, c, rfl⟩ := DskV.form hD.rq
  obtain ⟨⟨c0, c1, c2, c3, c4⟩, f0, f1, f2, f3, f4⟩ := hD.cells
  have HD := Aside0.mk hD
  have HQ := Aside0.mk hq
  have HG := Aside0.mk hg
  have HS6 := Aside0.mk hs6
  have HQ6 := Aside0.mk hq6
  have HLc := Aside0.mk hl
  have HR := Aside0.mk hr
  have HSP := Aside0.mk hsep
  have HF := Aside0.mk (Fr.refl w (own D vs (.slice A x.q.length c)))
  clear hD hq hg hs6 hq6 hl hr hsep
  go_enter Try.func16, Try.ntmps16
  go_wp2_with fail
  go_loopg [13] (x.q.length + 1) (fun gk v13 w' => ∃ (i : Nat) (s' : List ByteArray), v13 = .int .i64 (i : Int) ∧ Aside0 (gk + i = x.q.length + 1) ∧ Aside0 (s'.length = x.s.length ∧ ∀ p ∈ s', p.size = 256) ∧ Aside0 (tear s' (x.q.drop i) (l.drop i) = tear x.s x.q l) ∧ Aside0 (IsD w' B D vs (.slice A x.q.length c) { x with s := s' }) ∧ Aside0 (Fr w w' (own D vs (.slice A x.q.length c))))
  case atStart => exact ⟨0, x.s, rfl, ⟨rfl⟩, ⟨rfl, HS6.out⟩, ⟨rfl⟩, HD, HF⟩
  case round =>
    clear HD HF c0 c1 c2 c3 c4 f0 f1 f2 f3 f4
    obtain ⟨i, s', rfl, HK, HL, HP, HD, HF⟩ := hrel
    obtain ⟨⟨c0, c1, c2, c3, c4⟩, f0, f1, f2, f3, f4⟩ := HD.out.cells
    by_cases hi : i < x.q.length
    · have q0 : decide ((i : Int) < (x.q.length : Int)) = true := decide_eq_true (by omega)
      obtain ⟨gq, cq, hv, _, hgq⟩ := World.ownsRow.form HD.out.rq (show 0 < x.q.length by omega)
      simp only [Value.slice.injEq, true_and] at hv
      obtain ⟨rfl, rfl⟩ := hv
      have HI := Aside0.mk hi
      obtain ⟨k0, k1⟩ := rowQ HD.out.rq i hi
      have HPD := Aside0.mk (drop_at x.q i hi)
      have hmem : x.q.getD i z0 ∈ x.q := by rw [List.getD_eq_getElem?_getD, List.getElem?_eq_getElem hi]; exact List.getElem_mem hi
      have hpm := HG.out _ hmem
      have hp6 := HQ6.out _ hmem
      obtain ⟨p, hp⟩ : ∃ p, p = x.q.getD i z0 := ⟨_, rfl⟩
      rw [← hp] at k0 k1 HPD hpm hp6
      clear hp hmem
      obtain ⟨pa, pt⟩ := p
      simp only at k0 k1 HPD hpm hp6
      rw [← HL.out.1] at hpm
      obtain ⟨gs, cs, hvs, _, hgs⟩ := World.ownsRow.form HD.out.rs (show 0 < s'.length by omega)
      subst hvs
      have q1 : (0 ≤ (i : Int)) = True := eq_true (by omega)
      have q2 : ((i : Int) < (x.q.length : Int)) = True := eq_true (by omega)
      have HPM := Aside0.mk hpm
      have HP6 := Aside0.mk hp6
      cases gk with
      | zero => exact absurd HK.out (by omega)
      | succ k1_ =>
      by_cases hc : i < l.length
      · have q3 : decide ((i : Int) < (l.length : Int)) = true := decide_eq_true (by omega)
        have q4 : (i < l.length) = True := eq_true hc
        have q5 : ((i : Int) < (l.length : Int)) = True := eq_true (by omega)
        obtain ⟨ad, hCA, hcc⟩ := Kd.at_int (Kd.C_below HR.out (show Below w.heap.size w w from Below.refl _ _)) (i : Int) (by omega) (by omega)
        have hsp := HSP.out (by omega) ad hCA
        subst hCA
        obtain ⟨cv, hcv⟩ : ∃ cv, cv = Go.Proofs.YtbmhfmkfkdbmdaaW.PrintWords.rd l (i : Int) := ⟨_, rfl⟩
        have hcvm : cv ∈ l := by rw [hcv]; simp [Go.Proofs.YtbmhfmkfkdbmdaaW.PrintWords.rd, hc]
        have HLD := Aside0.mk (show l.drop i = cv :: l.drop (i + 1) by rw [List.drop_eq_getElem_cons hc, hcv]; simp [Go.Proofs.YtbmhfmkfkdbmdaaW.PrintWords.rd, hc])
        rw [← hcv, Int.toNat_natCast] at hcc
        clear hcv
        have HCV := Aside0.mk (HLc.out cv hcvm)
        have hch : wr.cell? (ad.add i) = some (.int .u8 cv) := (World.cell?_of_block (show wr.heap[(ad.add i).block]? = w.heap[(ad.add i).block]? by rw [add_block]; exact HF.out.block _ hsp.2 hsp.1)).trans hcc
        clear hi hc hgq hgs hpm hp6 hcc hcvm
        go_wp2_with fail
        obtain ⟨w1, hw1⟩ : ∃ w1, w1 = wr.alloc (.cells #[.int .i64 pa, .string pt] 76) := ⟨_, rfl⟩
        obtain ⟨gb, hgb⟩ : ∃ gb, gb = wr.heap.size := ⟨_, rfl⟩
        have HD1 : Aside0 (IsD w1 B D _ _ _) := Aside0.mk (by rw [hw1]; exact HD.out.alloc _)
        have HF1 : Aside0 (Fr w w1 _) := Aside0.mk (by rw [hw1]; exact HF.out.alloc _)
        have hb : w1.heap[gb]? = some (.cells #[.int .i64 pa, .string pt] 76 (0, 0)) := by rw [hw1, hgb]; exact blk_new _ _
        have hch1 : w1.cell? (ad.add i) = some (.int .u8 cv) := (World.cell?_of_block (show w1.heap[(ad.add i).block]? = wr.heap[(ad.add i).block]? by rw [hw1]; exact Below.heap_alloc wr _ _ (World.block_lt_of_cell? wr _ hch))).trans hch
        rw [← hw1, ← hgb]
        have d0 := HD1.out.cells.1.1
        have d2 : w1.cell? ⟨gb, 0, none⟩ = some (.int .i64 pa) := (blk_cell hb 0).trans rfl
        have d3 : w1.cell? ⟨gb, 1, none⟩ = some (.string pt) := (blk_cell hb 1).trans rfl
        have hlt0 : pa.toNat < s'.length := by have := HPM.out; omega
        obtain ⟨j0, j1⟩ := rowS HD1.out.rs pa.toNat hlt0
        obtain ⟨old, hold⟩ : ∃ old, old = s'.getD pa.toNat e0 := ⟨_, rfl⟩
        have HO6 := Aside0.mk (show old.size = 256 by rw [hold]; exact HL.out.2 _ (getD_mem hlt0))
        have HOLD := Aside0.mk hold
        have j0' : w1.cell? ⟨gs, pa.toNat, none⟩ = some (.string old) := by rw [hold]; exact j0
        have HFZ := Aside0.mk hlt0
        obtain ⟨cn, hcn⟩ : ∃ cn : Nat, cv = (cn : Int) := ⟨cv.toNat, by have := HCV.out; omega⟩
        subst hcn
        have r1 : (0 ≤ pa) = True := eq_true HPM.out.1
        have r2 : (pa < (s'.length : Int)) = True := eq_true HPM.out.2
        have hgbl : gb < w1.heap.size := blk_lt hb
        have HGB := Aside0.mk hgbl
        clear HD HF hw1 hgb hb c0 c1 c2 c3 c4 f0 f1 f2 f3 f4 k0 k1 q0 q1 q2 q3 j0 j1 hold hlt0 hch hgbl
        have g0 : w1.drew.cell? ⟨D, 0, none⟩ = some (.slice (some ⟨gs, 0, none⟩) s'.length cs) := d0
        have g1 : w1.drew.cell? ⟨gb, 0, none⟩ = some (.int .i64 pa) := d2
        have g2 : w1.drew.cell? ⟨gb, 1, none⟩ = some (.string pt) := d3
        have g3 : w1.drew.cell? ⟨gs, pa.toNat, none⟩ = some (.string old) := j0'
        have g4 : w1.drew.cell? (ad.add i) = some (.int .u8 (cn : Int)) := hch1
        clear d0 d2 d3 j0' hch1

        refine start_ (n := 23) (S := (fun w' => w'.cell? ⟨D, 0, none⟩ = some (.slice (some ⟨gs, 0, none⟩) s'.length cs) ∧ w'.cell? ⟨gb, 0, none⟩ = some (.int .i64 pa) ∧ w'.cell? ⟨gb, 1, none⟩ = some (.string pt) ∧ w'.cell? ⟨gs, pa.toNat, none⟩ = some (.string old) ∧ w'.cell? (ad.add i) = some (.int .u8 (cn : Int)))) (ds := [22]) #[false, false, false, false, false, false, false, false, false, false, false, false, false, false, false, false, false, false, false, false, false, false, false] (by kernel_rfl) rfl rfl ⟨g0, g1, g2, g3, g4⟩ (fun hHeld => ?_)
        refine pure_ (i := 0) (N := (some 22)) (v := ?_) (a' := ?_) #[true, false, false, false, false, false, false, false, false, false, false, false, false, false, false, false, false, false, false, false, false, false, false] rfl rfl (by kernel_rfl) (fun _ _ _ h => h) (Or.inl ⟨by rfl, ?_⟩) ?_ ?_
        rotate_left
        · intro w'
          go_simp
          with_reducible rfl
        rotate_left
        · simp only [Act.put, List.setIfInBounds_toArray, List.set_cons_zero, List.set_cons_succ]
          rfl
        refine pure_ (i := 1) (N := (some 23)) (v := ?_) (a' := ?_) #[true, true, false, false, false, false, false, false, false, false, false, false, false, false, false, false, false, false, false, false, false, false, false] rfl rfl (by kernel_rfl) (fun _ _ _ h => h) (Or.inl ⟨by rfl, ?_⟩) ?_ ?_
        rotate_left
        · intro w'
          go_simp
          with_reducible rfl
        rotate_left
        · simp only [Act.put, List.setIfInBounds_toArray, List.set_cons_zero, List.set_cons_succ]
          rfl
        refine pure_ (i := 2) (N := (some 24)) (v := ?_) (a' := ?_) #[true, true, true, false, false, false, false, false, false, false, false, false, false, false, false, false, false, false, false, false, false, false, false] rfl rfl (by kernel_rfl) (fun _ _ _ h => h) (Or.inl ⟨by rfl, ?_⟩) ?_ ?_
        rotate_left
        · intro w'
          go_simp
          with_reducible rfl
        rotate_left
        · simp only [Act.put, List.setIfInBounds_toArray, List.set_cons_zero, List.set_cons_succ]
          rfl
        refine take_ (i := 3) (N := (some 25)) (v := ?_) (a' := ?_) #[true, true, true, true, false, false, false, false, false, false, false, false, false, false, false, false, false, false, false, false, false, false, false] rfl rfl (by kernel_rfl) (fun _ _ _ h => h) (Or.inl ⟨by rfl, ?_⟩) hHeld ?_ ?_
        rotate_left
        · rintro w' ⟨s0, s1, s2, s3, s4⟩
          go_simp
          with_reducible rfl
        rotate_left
        · simp only [Act.put, List.setIfInBounds_toArray, List.set_cons_zero, List.set_cons_succ]
          rfl
        refine pure_ (i := 4) (N := (some 26)) (v := ?_) (a' := ?_) #[true, true, true, true, true, false, false, false, false, false, false, false, false, false, false, false, false, false, false, false, false, false, false] rfl rfl (by kernel_rfl) (fun _ _ _ h => h) (Or.inl ⟨by rfl, ?_⟩) ?_ ?_
        rotate_left
        · intro w'
          go_simp
          with_reducible rfl
        rotate_left
        · simp only [Act.put, List.setIfInBounds_toArray, List.set_cons_zero, List.set_cons_succ]
          rfl
        refine take_ (i := 5) (N := (some 27)) (v := ?_) (a' := ?_) #[true, true, true, true, true, true, false, false, false, false, false, false, false, false, false, false, false, false, false, false, false, false, false] rfl rfl (by kernel_rfl) (fun _ _ _ h => h) (Or.inl ⟨by rfl, ?_⟩) hHeld ?_ ?_
        rotate_left
        · rintro w' ⟨s0, s1, s2, s3, s4⟩
          go_simp
          with_reducible rfl
        rotate_left
        · simp only [Act.put, List.setIfInBounds_toArray, List.set_cons_zero, List.set_cons_succ]
          rfl
        refine pure_ (i := 6) (N := (some 28)) (v := ?_) (a' := ?_) #[true, true, true, true, true, true, true, false, false, false, false, false, false, false, false, false, false, false, false, false, false, false, false] rfl rfl (by kernel_rfl) (fun _ _ _ h => h) (Or.inl ⟨by rfl, ?_⟩) ?_ ?_
        rotate_left
        · intro w'
          go_simp
          with_reducible rfl
        rotate_left
        · simp only [Act.put, List.setIfInBounds_toArray, List.set_cons_zero, List.set_cons_succ]
          rfl
        refine pure_ (i := 7) (N := (some 29)) (v := ?_) (a' := ?_) #[true, true, true, true, true, true, true, true, false, false, false, false, false, false, false, false, false, false, false, false, false, false, false] rfl rfl (by kernel_rfl) (fun _ _ _ h => h) (Or.inl ⟨by rfl, ?_⟩) ?_ ?_
        rotate_left
        · intro w'
          go_simp
          with_reducible rfl
        rotate_left
        · simp only [Act.put, List.setIfInBounds_toArray, List.set_cons_zero, List.set_cons_succ]
          rfl
        refine pure_ (i := 8) (N := (some 30)) (v := ?_) (a' := ?_) #[true, true, true, true, true, true, true, true, true, false, false, false, false, false, false, false, false, false, false, false, false, false, false] rfl rfl (by kernel_rfl) (fun _ _ _ h => h) (Or.inl ⟨by rfl, ?_⟩) ?_ ?_
        rotate_left
        · intro w'
          go_simp
          with_reducible rfl
        rotate_left
        · simp only [Act.put, List.setIfInBounds_toArray, List.set_cons_zero, List.set_cons_succ]
          rfl
        refine take_ (i := 9) (N := (some 31)) (v := ?_) (a' := ?_) #[true, true, true, true, true, true, true, true, true, true, false, false, false, false, false, false, false, false, false, false, false, false, false] rfl rfl (by kernel_rfl) (fun _ _ _ h => h) (Or.inl ⟨by rfl, ?_⟩) hHeld ?_ ?_
        rotate_left
        · rintro w' ⟨s0, s1, s2, s3, s4⟩
          go_simp
          with_reducible rfl
        rotate_left
        · simp only [Act.put, List.setIfInBounds_toArray, List.set_cons_zero, List.set_cons_succ]
          rfl
        refine pure_ (i := 10) (N := (some 32)) (v := ?_) (a' := ?_) #[true, true, true, true, true, true, true, true, true, true, true, false, false, false, false, false, false, false, false, false, false, false, false] rfl rfl (by kernel_rfl) (fun _ _ _ h => h) (Or.inl ⟨by rfl, ?_⟩) ?_ ?_
        rotate_left
        · intro w'
          go_simp
          with_reducible rfl
        rotate_left
        · simp only [Act.put, List.setIfInBounds_toArray, List.set_cons_zero, List.set_cons_succ]
          rfl
        refine take_ (i := 11) (N := (some 33)) (v := ?_) (a' := ?_) #[true, true, true, true, true, true, true, true, true, true, true, true, false, false, false, false, false, false, false, false, false, false, false] rfl rfl (by kernel_rfl) (fun _ _ _ h => h) (Or.inl ⟨by rfl, ?_⟩) hHeld ?_ ?_
        rotate_left
        · rintro w' ⟨s0, s1, s2, s3, s4⟩
          go_simp
          with_reducible rfl
        rotate_left
        · simp only [Act.put, List.setIfInBounds_toArray, List.set_cons_zero, List.set_cons_succ]
          rfl
        refine pure_ (i := 12) (N := (some 34)) (v := ?_) (a' := ?_) #[true, true, true, true, true, true, true, true, true, true, true, true, true, false, false, false, false, false, false, false, false, false, false] rfl rfl (by kernel_rfl) (fun _ _ _ h => h) (Or.inl ⟨by rfl, ?_⟩) ?_ ?_
        rotate_left
        · intro w'
          go_simp
          with_reducible rfl
        rotate_left
        · simp only [Act.put, List.setIfInBounds_toArray, List.set_cons_zero, List.set_cons_succ]
          rfl
        refine take_ (i := 13) (N := (some 35)) (v := ?_) (a' := ?_) #[true, true, true, true, true, true, true, true, true, true, true, true, true, true, false, false, false, false, false, false, false, false, false] rfl rfl (by kernel_rfl) (fun _ _ _ h => h) (Or.inl ⟨by rfl, ?_⟩) hHeld ?_ ?_
        rotate_left
        · rintro w' ⟨s0, s1, s2, s3, s4⟩
          go_simp
          with_reducible rfl
        rotate_left
        · simp only [Act.put, List.setIfInBounds_toArray, List.set_cons_zero, List.set_cons_succ]
          rfl
        refine pure_ (i := 14) (N := (some 36)) (v := ?_) (a' := ?_) #[true, true, true, true, true, true, true, true, true, true, true, true, true, true, true, false, false, false, false, false, false, false, false] rfl rfl (by kernel_rfl) (fun _ _ _ h => h) (Or.inl ⟨by rfl, ?_⟩) ?_ ?_
        rotate_left
        · intro w'
          go_simp
          with_reducible rfl
        rotate_left
        · simp only [Act.put, List.setIfInBounds_toArray, List.set_cons_zero, List.set_cons_succ]
          rfl
        refine take_ (i := 15) (N := (some 37)) (v := ?_) (a' := ?_) #[true, true, true, true, true, true, true, true, true, true, true, true, true, true, true, true, false, false, false, false, false, false, false] rfl rfl (by kernel_rfl) (fun _ _ _ h => h) (Or.inl ⟨by rfl, ?_⟩) hHeld ?_ ?_
        rotate_left
        · rintro w' ⟨s0, s1, s2, s3, s4⟩
          go_simp
          with_reducible rfl
        rotate_left
        · simp only [Act.put, List.setIfInBounds_toArray, List.set_cons_zero, List.set_cons_succ]
          rfl
        refine pure_ (i := 16) (N := (some 38)) (v := ?_) (a' := ?_) #[true, true, true, true, true, true, true, true, true, true, true, true, true, true, true, true, true, false, false, false, false, false, false] rfl rfl (by kernel_rfl) (fun _ _ _ h => h) (Or.inl ⟨by rfl, ?_⟩) ?_ ?_
        rotate_left
        · intro w'
          go_simp
          with_reducible rfl
        rotate_left
        · simp only [Act.put, List.setIfInBounds_toArray, List.set_cons_zero, List.set_cons_succ]
          rfl
        refine pure_ (i := 17) (N := (some 39)) (v := ?_) (a' := ?_) #[true, true, true, true, true, true, true, true, true, true, true, true, true, true, true, true, true, true, false, false, false, false, false] rfl rfl (by kernel_rfl) (fun _ _ _ h => h) (Or.inl ⟨by rfl, ?_⟩) ?_ ?_
        rotate_left
        · intro w'
          go_simp
          with_reducible rfl
        rotate_left
        · simp only [Act.put, List.setIfInBounds_toArray, List.set_cons_zero, List.set_cons_succ]
          rfl
        refine pure_ (i := 18) (N := (some 40)) (v := ?_) (a' := ?_) #[true, true, true, true, true, true, true, true, true, true, true, true, true, true, true, true, true, true, true, false, false, false, false] rfl rfl (by kernel_rfl) (fun _ _ _ h => h) (Or.inl ⟨by rfl, ?_⟩) ?_ ?_
        rotate_left
        · intro w'
          go_simp
          with_reducible rfl
        rotate_left
        · simp only [Act.put, List.setIfInBounds_toArray, List.set_cons_zero, List.set_cons_succ]
          rfl
        refine take_ (i := 19) (N := (some 41)) (v := ?_) (a' := ?_) #[true, true, true, true, true, true, true, true, true, true, true, true, true, true, true, true, true, true, true, true, false, false, false] rfl rfl (by kernel_rfl) (fun _ _ _ h => h) (Or.inl ⟨by rfl, ?_⟩) hHeld ?_ ?_
        rotate_left
        · rintro w' ⟨s0, s1, s2, s3, s4⟩
          go_simp
          with_reducible rfl
        rotate_left
        · simp only [Act.put, List.setIfInBounds_toArray, List.set_cons_zero, List.set_cons_succ]
          rfl
        refine one_ (i := 20) (N := some 42) #[true, true, true, true, true, true, true, true, true, true, true, true, true, true, true, true, true, true, true, true, true, false, false] rfl rfl (by kernel_rfl) (by decide) (fun K hK => ?_)
        refine goes_ Try.func44 (by kernel_rfl) rfl #[.string old, .string pt, .int .u8 (cn : Int)] (by rfl) rfl rfl (by (try simp only [List.map_toArray, List.map_cons, List.map_nil]); first | done | rfl) ?_
        refine (DskU.torn_c old pt HO6.out HP6.out cn (by have := HCV.out; omega) _).mono ?_
        rintro e w2 ⟨rfl, hb⟩
        refine ⟨_, rfl, ?_⟩
        have HD2 := Aside0.mk (HD1.out.drew.below hb)
        have HF2 := Aside0.mk (HF1.out.drew.trans (Fr.of_below (S := own D (.slice (some ⟨gs, 0, none⟩) s'.length cs) (.slice (some ⟨gq, 0, none⟩) x.q.length c)) hb) (fun k hk => .inl hk))
        have t0 := HD2.out.cells.1.1
        have t1 := (hb.cell (p := ⟨gb, 0, none⟩) HGB.out).trans g1
        have t2 := (hb.cell (p := ⟨gb, 1, none⟩) HGB.out).trans g2
        obtain ⟨t3, t5⟩ := rowS HD2.out.rs pa.toNat HFZ.out
        have t3' : w2.cell? ⟨gs, pa.toNat, none⟩ = some (.string old) := by rw [HOLD.out]; exact t3
        have t4 := (hb.cell (p := ad.add i) (World.block_lt_of_cell? _ _ g4)).trans g4
        clear HD1 HF1 g0 g1 g2 g3 g4 hb t3
        refine hK.out _ _ ⟨t0, t1, t2, t3', t4⟩ (fun hHeld => ?_)
        clear hK K
        refine norm_ (a' := ?_) ?_ ?_
        rotate_left
        · show Act.put _ (some 42) _ = _
          simp only [Act.put, List.setIfInBounds_toArray, List.set_cons_zero, List.set_cons_succ]
          rfl
        refine pure_ (i := 21) (N := (some 43)) (v := ?_) (a' := ?_) #[true, true, true, true, true, true, true, true, true, true, true, true, true, true, true, true, true, true, true, true, true, true, false] rfl rfl (by kernel_rfl) (fun _ _ _ h => h) (Or.inl ⟨by rfl, ?_⟩) ?_ ?_
        rotate_left
        · intro w'
          go_simp
          with_reducible rfl
        rotate_left
        · simp only [Act.put, List.setIfInBounds_toArray, List.set_cons_zero, List.set_cons_succ]
          rfl
        refine last_ (i := 22) (N := none) #[true, true, true, true, true, true, true, true, true, true, true, true, true, true, true, true, true, true, true, true, true, true, true] rfl rfl (by kernel_rfl) (by decide) (fun K hK => ?_)
        refine skip_ (w1 := ?_) (by rfl) rfl ?_ ?_
        rotate_left
        · go_simp
          rfl
        refine hK.out _ _ ?_
        clear hK K
        refine done_ (by kernel_rfl) ?_
        go_wp2_with fail
        go_roundg k1_
        case measure => omega
        case rel => exact ⟨i + 1, s'.set pa.toNat (DskU.tornB old pt cn), by rw [← w_succ i (Nat.lt_trans HI.out (Nat.lt_of_lt_of_le HQ.out (by decide)))], ⟨by have := HK.out; omega⟩, ⟨by rw [List.length_set]; exact HL.out.1, fun p hp => (List.mem_or_eq_of_mem_set hp).elim (HL.out.2 p) (fun e => by rw [e]; exact torn_size old pt HO6.out HP6.out cn)⟩, ⟨by have := HP.out; rw [HPD.out, HLD.out] at this; simp only [tear, Int.toNat_natCast] at this; rw [HOLD.out]; exact this⟩, ⟨by have := put (x := { x with s := s' }) HD2.out pa.toNat (DskU.tornB old pt cn); simp only [List.length_set] at this; exact this⟩, ⟨HF2.out.set _ _ (.inl (.inr (.inl rfl)))⟩⟩
      · have q3 : decide ((i : Int) < (l.length : Int)) = false := decide_eq_false (by omega)
        have q4 : (i < l.length) = False := eq_false hc
        have HLD := Aside0.mk (show l.drop i = [] ∧ l.drop (i + 1) = [] from ⟨List.drop_eq_nil_of_le (by omega), List.drop_eq_nil_of_le (by omega)⟩)
        clear hi hc hgq hgs hpm hp6
        go_wp2_with fail
        go_roundg k1_
        case measure => omega
        case rel => exact ⟨i + 1, s', by rw [← w_succ i (Nat.lt_trans HI.out (Nat.lt_of_lt_of_le HQ.out (by decide)))], ⟨by have := HK.out; omega⟩, HL, ⟨by have := HP.out; rw [HLD.out.1, tear_nil] at this; rw [HLD.out.2, tear_nil]; exact this⟩, ⟨HD.out.alloc _⟩, ⟨HF.out.alloc _⟩⟩
    · have q0 : decide ((i : Int) < (x.q.length : Int)) = false := decide_eq_false (by omega)
      have hdr : x.q.drop i = [] := List.drop_eq_nil_of_le (by omega)
      have hs : s' = tear x.s x.q l := by have := HP.out; rw [hdr] at this; simpa [tear] using this
      have hni : (i < x.q.length) = False := eq_false hi
      clear hi hdr
      go_wp2_with fail
      go_end0
      subst hs
      exact ⟨rfl, vs, ((HD.out.setQ (l := []) (World.ownsRow_nil _ _ _ _) (by simp [Value.ownBlock])).setDown false).setFuse (-1), ((HF.out.set _ _ (.inl (.inl rfl))).set _ _ (.inl (.inl rfl))).set _ _ (.inl (.inl rfl)), fun k hk => hk.elim (fun e => .inl (.inl e)) (fun q => q.elim (fun q => .inl (.inr (.inl q))) (fun q => by simp [Value.ownBlock] at q))⟩
end
end Go.Proofs.Ytbmhfmkfkdbmdaa.DskC
end

section
/-
  slices.Backward's iterator over what waits.
-/
namespace Go.Proofs.Ytbmhfmkfkdbmdaa.DskI
open Go.RowKit Go.Shelf Go.Proofs.Ytbmhfmkfkdbmdaa.DskR Go.Proofs.Ytbmhfmkfkdbmdaa.DskQ
attribute [local go_sem] Oper.semAt_some
set_option linter.unusedVariables false
set_option maxHeartbeats 1000000 in
theorem back_in0 (F : Fence) (n : Nat) (h5 : F.fn 62) (hro : F.round = none) (A : Option Addr) (m c : Nat) (w : World) :
    CallsIn F n Try.prog 62 #[.slice A m c] w fun e w' => e = .returned (.func (.func 70) #[] #[.pointer (some ⟨w.heap.size, 0, none⟩)]) ∧ w' = w.alloc (.cells #[.slice A m c] 41) := by
  refine callsIn_of_wp Try.func62 rfl h5 ?_ hro
  simp only [Try.ntmps62, List.size_toArray, List.length_cons, List.length_nil, Nat.reduceAdd, Nat.reduceSub, Array.replicate_succ, Array.replicate_zero, List.push_toArray, List.append_toArray, List.nil_append, List.cons_append]
  gi_wp2
  go_ret
  exact ⟨rfl, rfl⟩
/-- All blocks below N but R lie as they lay. -/
def Same (N R : Nat) (W W' : World) : Prop := ∀ k, k < N → k ≠ R → W'.heap[k]? = W.heap[k]?
theorem Same.refl (N R : Nat) (W : World) : Same N R W W := fun _ _ _ => rfl
theorem Same.trans {N R : Nat} {A B C : World} (h : Same N R A B) (k : Same N R B C) : Same N R A C := fun i h1 h2 => (k i h1 h2).trans (h i h1 h2)
theorem Same.cell {N R : Nat} {W W' : World} (h : Same N R W W') {p : Addr} (h1 : p.block < N) (h2 : p.block ≠ R) : W'.cell? p = W.cell? p := World.cell?_of_block (h p.block h1 h2)
theorem same_b {N R : Nat} {w : World} (hb : N ≤ w.heap.size) (W : World) (l : Nat) (o o' : Obj) (hl : w.heap.size ≤ l) (h : W.heap[l]? = some o) (_ : o.isCells = false) (_ : o.isWalk = false) : Same N R W (W.putObj l o') :=
  fun k hk _ => World.putObj_heap_other (by omega)
abbrev At (q : List (Int × ByteArray)) := { k : Nat // k < q.length }
def encs (q : List (Int × ByteArray)) (x : At q) : Array Value := #[.int .i64 (x.1 : Int), .agg #[.int .i64 (q.getD x.1 z0).1, .string (q.getD x.1 z0).2]]
/-- The first t of the indices from the last one down. -/
def dn (m t : Nat) : List Nat := (List.range t).map fun i => m - 1 - i
theorem dn_succ (m t : Nat) : dn m (t + 1) = dn m t ++ [m - 1 - t] := by simp [dn, List.range_succ]
theorem dn_length (m t : Nat) : (dn m t).length = t := by simp [dn]
set_option maxRecDepth 100000 in
set_option maxHeartbeats 2000000 in
theorem back1_in (F : Fence) (n : Nat) (h7 : F.fn 70) (hro : F.round = none) (hn : 1 ≤ n) (l Bs N R B cap : Nat) (A : Option Addr) (q : List (Int × ByteArray)) (hl : q.length < 1000000) (hBs : Bs < N) (hBR : Bs ≠ R)
    (hgq : ∀ ad, A = some ad → ad.block < N ∧ ad.block ≠ R) (J Jx : List (At q) → World → Prop)
    (hY : ∀ pre (x : At q) W, J pre W → pre.length < q.length → YieldAt F (n - 1) Try.prog l (encs q x) W fun e W' =>
      (e = .returned (.bool true) ∧ J (pre ++ [x]) W' ∧ Same N R W W') ∨ (e = .returned (.bool false) ∧ Jx (pre ++ [x]) W'))
    (W : World) (hs : W.cell? ⟨Bs, 0, none⟩ = some (.slice A q.length cap)) (hr : W.ownsRow B 76 2 (.slice A q.length cap) q.length (qC q)) (h0 : J [] W) (hJ : AbidesFrom W.heap.size J) :
    CallsIn F n Try.prog 70 #[.func (.yield l) #[] #[], .pointer (some ⟨Bs, 0, none⟩)] W fun e W' => (∃ v, e = .returned v) ∧
      ((∃ ys : List (At q), ys.map Subtype.val = dn q.length q.length ∧ J ys W') ∨ (∃ pre : List (At q), (∃ t, t < q.length ∧ pre.map Subtype.val = dn q.length (t + 1)) ∧ Jx pre W')) := by
  refine callsIn_of_wp Try.func70 rfl h7 ?_ hro
  simp only [Try.ntmps70, List.size_toArray, List.length_cons, List.length_nil, Nat.reduceAdd, Nat.reduceSub, Array.replicate_succ, Array.replicate_zero, List.push_toArray, List.append_toArray, List.nil_append, List.cons_append]
  gi_wp2
  gi_loopw [3] (fun i wr => ∃ (k : Nat) (pre : List (At q)), k ≤ q.length ∧ i = .int .i64 ((k : Int) - 1) ∧ pre.map Subtype.val = dn q.length (q.length - k) ∧ J pre wr ∧ Same N R W wr)
    (fun i _ => (intOf i + 1).toNat)
  case atStart => exact ⟨q.length, [], Nat.le_refl _, by first | rfl | (congr 1; omega), by rw [Nat.sub_self]; rfl, h0, Same.refl _ _ _⟩
  case round =>
    obtain ⟨k, pre, hk, rfl, hpre, hJs, hnx⟩ := hrel
    have hs' := (hnx.cell (p := ⟨Bs, 0, none⟩) hBs hBR).trans hs
    have hpl : pre.length = q.length - k := by have := congrArg List.length hpre; simpa [dn_length] using this
    cases k with
    | zero =>
      gi_wp2
      go_end0
      exact ⟨⟨_, rfl⟩, .inl ⟨pre, by simpa using hpre, hJs⟩⟩
    | succ j =>
      have hj : j < q.length := by omega
      have ej : (((j + 1 : Nat) : Int) - 1) = (j : Int) := by omega
      obtain ⟨g, c', hv, _, _⟩ := World.ownsRow.form hr (by omega)
      simp only [Value.slice.injEq, true_and] at hv
      obtain ⟨rfl, rfl⟩ := hv
      obtain ⟨g1, g2⟩ := hgq _ rfl
      have hrow := rowQ hr j hj
      have k0 := (hnx.cell (p := ⟨g, j * 2, none⟩) g1 g2).trans hrow.1
      have k1 := (hnx.cell (p := ⟨g, j * 2 + 1, none⟩) g1 g2).trans hrow.2
      have q1 : (0 ≤ (j : Int)) = True := eq_true (by omega)
      have q2 : ((j : Int) < (q.length : Int)) = True := eq_true (by omega)
      have q3 : decide ((j : Int) ≥ 0) = true := decide_eq_true (by omega)
      obtain ⟨fn, tmps, assign, body, hy, hR⟩ := hY pre ⟨j, hj⟩ wr hJs (by omega)
      dsimp only [encs] at hy
      obtain ⟨p, hp⟩ : ∃ p, p = q.getD j z0 := ⟨_, rfl⟩
      rw [← hp] at k0 k1 hy
      rw [ej]
      clear hrow hp
      gi_wp2
      refine hR.mono ?_
      rintro e W3 (⟨rfl, hJ3, hk3⟩ | ⟨rfl, hJx3⟩)
      · clear hR hy
        gi_wp2
        go_roundw
        case rel => exact ⟨j, pre ++ [⟨j, hj⟩], by omega, rfl, by rw [List.map_append, hpre, show q.length - j = (q.length - (j + 1)) + 1 by omega, dn_succ]; congr 1; first | (simp; done) | (simp; omega), hJ3, hnx.trans hk3⟩
        case measure => first | (simp [intOf]; done) | (simp [intOf]; omega)
      · clear hR hy
        gi_wp2
        refine bodyPost_ret (results_none rfl _ _ _) rfl ?_
        exact ⟨⟨_, rfl⟩, .inr ⟨_, ⟨q.length - (j + 1), by omega, by rw [List.map_append, hpre, dn_succ]; congr 1; first | (simp; done) | (simp; omega)⟩, hJx3⟩⟩
theorem back_stops (F : Fence) (n : Nat) (h7 : F.fn 70) (hro : F.round = none) (hn : 1 ≤ n) (Bs N R B cap : Nat) (A : Option Addr) (q : List (Int × ByteArray)) (hl : q.length < 1000000) (hBs : Bs < N) (hBR : Bs ≠ R)
    (hgq : ∀ ad, A = some ad → ad.block < N ∧ ad.block ≠ R) (w : World) (hN : N ≤ w.heap.size) (hs : w.cell? ⟨Bs, 0, none⟩ = some (.slice A q.length cap)) (hr : w.ownsRow B 76 2 (.slice A q.length cap) q.length (qC q)) :
    SeqStopsK F n Try.prog 70 #[.pointer (some ⟨Bs, 0, none⟩)] (encs q) (Same N R) (fun ys => ys.map Subtype.val = dn q.length q.length) (fun pre => ∃ t, t < q.length ∧ pre.map Subtype.val = dn q.length (t + 1)) q.length w := by
  intro l J Jx W hW hJ hJx hY h0
  have hlt : ∀ k, (Value.slice A q.length cap).ownBlock = some k → k < w.heap.size := fun k hk => (hr.lt k hk).2
  refine (back1_in F n h7 hro hn l Bs N R B cap A q hl hBs hBR hgq J Jx hY W ((hW.cell (p := ⟨Bs, 0, none⟩) (Nat.lt_of_lt_of_le hBs hN)).trans hs) (row_same hr (fun k hk => hW.block k (hlt k hk))) h0 hJ).mono ?_
  rintro e W' ⟨he, ⟨ys, hys, hj⟩ | ⟨pre, hp, hj⟩⟩
  · exact ⟨he, .inl ⟨ys, hys, hj⟩⟩
  · exact ⟨he, .inr ⟨pre, hp, hj⟩⟩
end Go.Proofs.Ytbmhfmkfkdbmdaa.DskI
end

section
/-
  What is read of a page.
-/
namespace Go.Proofs.Ytbmhfmkfkdbmdaa.DskJ
open Go.RowKit Go.Proofs.YtbmhfmkfkdbmdaaW.PrintWords Go.Proofs.YtbmhfmkfkdbmdaaW.PrintMore Go.Proofs.Ytbmhfmkfkdbmdaa.DskR Go.Proofs.Ytbmhfmkfkdbmdaa.DskQ Go.Proofs.Ytbmhfmkfkdbmdaa.DskI
attribute [local go_sem] Oper.semAt_some
set_option linter.unusedVariables false
def datK (x : Dk) (at_ : Int) : Nat → ByteArray
  | 0 => x.s.getD at_.toNat e0
  | k + 1 => if (x.q.getD k z0).1 = at_ then (x.q.getD k z0).2 else datK x at_ k
def dat (x : Dk) (at_ : Int) : ByteArray := datK x at_ x.q.length
theorem datK_none (x : Dk) (at_ : Int) : ∀ m, (∀ k, k < m → (x.q.getD k z0).1 ≠ at_) → datK x at_ m = x.s.getD at_.toNat e0
  | 0, _ => rfl
  | m + 1, h => by rw [datK, if_neg (h m (Nat.lt_succ_self m)), datK_none x at_ m (fun k hk => h k (Nat.lt_succ_of_lt hk))]
theorem datK_some (x : Dk) (at_ : Int) (j : Nat) (hj : (x.q.getD j z0).1 = at_) : ∀ m, j < m → (∀ k, j < k → k < m → (x.q.getD k z0).1 ≠ at_) → datK x at_ m = (x.q.getD j z0).2
  | 0, h, _ => by omega
  | m + 1, h, hn => by
    by_cases e : j = m
    · rw [datK, ← e, if_pos hj]
    · rw [datK, if_neg (hn m (by omega) (Nat.lt_succ_self m)), datK_some x at_ j hj m (by omega) (fun k h1 h2 => hn k h1 (Nat.lt_succ_of_lt h2))]
theorem mem_dn {m t k : Nat} (h1 : k < m) (h2 : m - 1 - k < t) : k ∈ dn m t := List.mem_map.2 ⟨m - 1 - k, List.mem_range.2 h2, by omega⟩
theorem results_str {fn : Func} {p : Tmp} {ty : TypeId} (h : fn.results = #[.cell p ty]) (tmps : Array Value) (w : World) (g : Nat) (s : ByteArray) {P : Program} (hp : tmps.getD p undef = .pointer (some ⟨g, 0, none⟩)) (hc : w.cell? ⟨g, 0, none⟩ = some (.string s)) (hu : P.underlying ty = some .string) :
    (results fn tmps).run P w = .ok (.string s) w := by
  have hp' : tmps[p]?.getD undef = .pointer (some ⟨g, 0, none⟩) := by simpa using hp
  have ha : (isAgg ty).run P w = .ok false w := run_isAgg_plain hu rfl w
  simp [results, h, hp', asAddr, loadVar, go_sem, ha, hc]
theorem below_def {B : Nat} {w W : World} {l : Nat} {o o' : Obj} (h : Below B w W) (hl : B ≤ l) (ho : W.heap[l]? = some o) : Below B w (W.putObj l o') :=
  ⟨h.os, h.tape, h.output, by have := h.size; simpa [World.putObj] using this, fun k hk => (World.putObj_heap_other (by omega)).trans (h.block k hk)⟩
/-- What the loop keeps: nothing below turned, nothing was met. -/
def Inv (w : World) (at_ : Int) (q : List (Int × ByteArray)) (pre : List (At q)) (W : World) : Prop :=
  Below w.heap.size w W ∧ W.heap[w.heap.size]? = some (.cells #[.int .i64 at_] 3 (0, 0)) ∧ W.heap[w.heap.size + 1]? = some (.cells #[.string (⟨#[]⟩ : ByteArray)] 9 (0, 0)) ∧ w.heap.size + 3 ≤ W.heap.size ∧ ∀ y ∈ pre, (q.getD y.1 z0).1 ≠ at_
def Got (w : World) (at_ : Int) (q : List (Int × ByteArray)) (c : Code) (pre : List (At q)) (W : World) : Prop :=
  c = .ret ∧ Below w.heap.size w W ∧ w.heap.size + 3 ≤ W.heap.size ∧ ∃ (p : List (At q)) (y : At q), pre = p ++ [y] ∧ (∀ y ∈ p, (q.getD y.1 z0).1 ≠ at_) ∧ (q.getD y.1 z0).1 = at_ ∧ W.heap[w.heap.size + 1]? = some (.cells #[.string (q.getD y.1 z0).2] 9 (0, 0))
theorem below_turn {w W W' : World} {n : Nat} {row : Option Nat} (h : Below w.heap.size w W) (hz : w.heap.size + 3 ≤ n) (hg : W.grownBy W' row) (hr : ∀ r, row = some r → n ≤ r ∧ ∃ o : Obj, W.heap[r]? = some o ∧ o.isCells = false) : Below w.heap.size w W' :=
  h.grown hg h.size (fun k hk => by have := (hr k hk).1; omega)
theorem blk_turn {W W' : World} {n k : Nat} {row : Option Nat} {o : Obj} (h : W.heap[k]? = some o) (hk : k < n) (hg : W.grownBy W' row) (hr : ∀ r, row = some r → n ≤ r ∧ ∃ o : Obj, W.heap[r]? = some o ∧ o.isCells = false) : W'.heap[k]? = some o :=
  (hg.block k (blk_lt h) (fun e => by have := (hr k e.symm).1; omega)).trans h
theorem inv_own (w : World) (at_ : Int) (q : List (Int × ByteArray)) (n : Nat) (hn : w.heap.size + 3 ≤ n) : OwnFrom n (Inv w at_ q) := by
  rintro s W W' row ⟨h1, h2, h3, h4, h5⟩ hg hr
  exact ⟨below_turn h1 hn hg hr, blk_turn h2 (by omega) hg hr, blk_turn h3 (by omega) hg hr, Nat.le_trans h4 hg.size, h5⟩
theorem got_own (w : World) (at_ : Int) (q : List (Int × ByteArray)) (n : Nat) (hn : w.heap.size + 3 ≤ n) (c : Code) : OwnFrom n (Got w at_ q c) := by
  rintro s W W' row ⟨h0, h1, h4, p, y, h5, h6, h7, h8⟩ hg hr
  exact ⟨h0, below_turn h1 hn hg hr, Nat.le_trans h4 hg.size, p, y, h5, h6, h7, blk_turn h8 (by omega) hg hr⟩
section
variable {w : World} {B D : Nat} {vs vq : Value} {x : Dk}
set_option maxRecDepth 100000 in
set_option maxHeartbeats 4000000 in
theorem data_w (hD : IsD w B D vs vq x) (hq : x.q.length < 1000000) (at_ : Int) (h0 : 0 ≤ at_) (h1 : at_ < x.s.length) :
    CallsIn Fence.wide 6 Try.prog 45 #[.pointer (some ⟨D, 0, none⟩), .int .i64 at_] w fun e w' => e = .returned (.string (dat x at_)) ∧ Below w.heap.size w w' := by
  have h1' : 1 ≤ 6 := by omega
  have hro : Fence.wide.round = none := rfl
  obtain ⟨A, c, rfl⟩ := DskV.form hD.rq
  obtain ⟨w1, hw1⟩ : ∃ w1, w1 = (w.alloc (.cells #[.int .i64 at_] 3)).alloc (.cells #[.string (⟨#[]⟩ : ByteArray)] 9) := ⟨_, rfl⟩
  have hD1 : IsD w1 B D vs (.slice A x.q.length c) x := by rw [hw1]; exact (hD.alloc _).alloc _
  obtain ⟨⟨c0, c1, c2, c3, c4⟩, f0, f1, f2, f3, f4⟩ := hD1.cells
  have HD := Aside0.mk hD
  clear hD1
  subst hw1
  refine callsIn_of_wp_marks Try.func45 rfl trivial ?_ rfl
  simp only [Try.ntmps45, List.size_toArray, List.length_cons, List.length_nil, Nat.reduceAdd, Nat.reduceSub, Array.replicate_succ, Array.replicate_zero, List.push_toArray, List.append_toArray, List.nil_append, List.cons_append]
  gi_wp2_with (refine ⟨trivial, ?_⟩; gi_at_call 62; refine (back_in0 Fence.wide (6 - 1) trivial rfl _ _ _ _).mono ?_; rintro e w' ⟨rfl, rfl⟩)
  obtain ⟨w3, hw3⟩ : ∃ w3, w3 = ((w.alloc (.cells #[.int .i64 at_] 3)).alloc (.cells #[.string (⟨#[]⟩ : ByteArray)] 9)).alloc (.cells #[.slice A x.q.length c] 41) := ⟨_, rfl⟩
  have B3 : Below w.heap.size w w3 := by rw [hw3]; exact below_alloc (below_alloc (below_alloc (Below.refl _ _) _) _) _
  have hz : w3.heap.size = w.heap.size + 3 := by rw [hw3]; simp
  have b0 : w3.heap[w.heap.size]? = some (.cells #[.int .i64 at_] 3 (0, 0)) := by rw [hw3]; exact blk_alloc (blk_alloc (blk_new _ _) _) _
  have b1 : w3.heap[w.heap.size + 1]? = some (.cells #[.string (⟨#[]⟩ : ByteArray)] 9 (0, 0)) := by
    rw [hw3]; exact blk_alloc (by have := blk_new (w.alloc (.cells #[.int .i64 at_] 3)) (.cells #[.string (⟨#[]⟩ : ByteArray)] 9); simpa using this) _
  have b2 : w3.heap[w.heap.size + 1 + 1]? = some (.cells #[.slice A x.q.length c] 41 (0, 0)) := by
    rw [hw3]; have := blk_new ((w.alloc (.cells #[.int .i64 at_] 3)).alloc (.cells #[.string (⟨#[]⟩ : ByteArray)] 9)) (.cells #[.slice A x.q.length c] 41); simpa using this
  have hD3 : IsD w3 B D vs (.slice A x.q.length c) x := HD.out.below B3
  have hgq : ∀ ad, A = some ad → ad.block < w.heap.size + 3 ∧ ad.block ≠ w.heap.size + 1 := by
    rintro ad rfl
    have := (HD.out.rq.lt ad.block rfl).2
    omega
  have hseq := back_stops Fence.wide (6 - 1) trivial rfl (by omega) (w.heap.size + 1 + 1) (w.heap.size + 3) (w.heap.size + 1) B c A x.q hq (by omega) (by omega) hgq w3 (by omega) ((blk_cell b2 0).trans rfl) hD3.rq
  rw [← hw3]
  have hlD := HD.out.lt
  clear hw3 c0 c1 c2 c3 c4 f0 f1 f2 f3 f4
  refine wpIn_rangeFunc_ownH hro h1' (gf := 70) (lb := #[.pointer (some ⟨w.heap.size + 1 + 1, 0, none⟩)]) rfl trivial (enters_of Try.func70 (by kernel_rfl) rfl)
    hseq (Same.trans) (same_b (by omega)) (Below.refl _ _) (fun _ => rfl)
    (Inv w at_ x.q) (Got w at_ x.q) (inv_own w at_ x.q _ (by omega)) (fun c => got_own w at_ x.q _ (by omega) c) ⟨B3, b0, b1, by omega, fun y hy => by cases hy⟩
    (fun y a' W => ∃ b : Nat, w.heap.size + 3 ≤ b ∧ W.heap[b]? = some (.cells #[.int .i64 (x.q.getD y.1 z0).1, .string (x.q.getD y.1 z0).2] 76 (0, 0)) ∧ a' = { tmps := #[.pointer (some ⟨D, 0, none⟩), .int .i64 at_, undef, .pointer (some ⟨w.heap.size, 0, none⟩), .pointer (some ⟨w.heap.size + 1, 0, none⟩), undef, .pointer (some ⟨b, 0, none⟩), .pointer (some ⟨D, 0, none⟩), .pointer (some ⟨D, 0, none⟩), .pointer (some ⟨D, 1, none⟩), .slice A x.q.length c, .func (.func 70) #[] #[.pointer (some ⟨w.heap.size + 1 + 1, 0, none⟩)], .int .i64 (y.1 : Int), .agg #[.int .i64 (x.q.getD y.1 z0).1, .string (x.q.getD y.1 z0).2], undef, undef, undef, undef, undef, undef, undef, undef, undef, undef, undef, undef, undef], defers := [] })
    ?ax ?assign ?body ?done ?stop
  case ax =>
    rintro y a' s W W' row ⟨b, g1, g2, g3⟩ hg hr
    exact ⟨b, g1, (hg.block b (blk_lt g2) (fun e => by obtain ⟨_, o, ho, hc⟩ := hr b e.symm; rw [g2] at ho; cases ho; cases hc)).trans g2, g3⟩
  case assign =>
    intro l pre y W K hI hK
    dsimp only [DskI.encs]
    have e := List.getD_eq_getElem?_getD (l := x.q) (i := y.1) (a := z0)
    have hz0 := hI.2.2.2.1
    gi_wp2
    rw [← e]
    exact hK _ _ (KeepsFrom.of_grownBy (World.grownBy_alloc W _ none) (fun j e => by cases e)) (fun k hk _ => Below.heap_alloc W _ k (by omega)) ((inv_own w at_ x.q w3.heap.size (by omega)).alloc _ hI) ⟨W.heap.size, hz0, blk_new _ _, rfl⟩
  case body =>
    rintro l pre y a' W hlD' hL ⟨hB, i0, i1, i2, i3⟩ ⟨b, g1, g2, rfl⟩ hlt
    have k0 : W.cell? ⟨b, 0, none⟩ = some (.int .i64 (x.q.getD y.1 z0).1) := (blk_cell g2 0).trans rfl
    have k1 : W.cell? ⟨b, 1, none⟩ = some (.string (x.q.getD y.1 z0).2) := (blk_cell g2 1).trans rfl
    have k2 : W.cell? ⟨w.heap.size, 0, none⟩ = some (.int .i64 at_) := (blk_cell i0 0).trans rfl
    have k3 : W.cell? ⟨w.heap.size + 1, 0, none⟩ = some (.string (⟨#[]⟩ : ByteArray)) := (blk_cell i1 0).trans rfl
    have k4 := blk_frozen i1 0
    obtain ⟨p, hp⟩ : ∃ p, p = x.q.getD y.1 z0 := ⟨_, rfl⟩
    have HP := Aside0.mk hp
    rw [← hp] at k0 k1 ⊢
    clear hp
    have HI := Aside0.mk (show Inv w at_ x.q pre W from ⟨hB, i0, i1, i2, i3⟩)
    by_cases hm : p.1 = at_
    · have q0 : (p.1 == at_) = true := beq_iff_eq.2 hm
      have HM := Aside0.mk hm
      clear hm hB i0 i1 i2 i3 g2
      gi_wp2
      exact ⟨KeepsFrom.of_grownBy (row := some (w.heap.size + 1)) ⟨rfl, rfl, rfl, by simp [World.setCell], fun k _ hk => Below.heap_setCell W ⟨w.heap.size + 1, 0, none⟩ _ k (fun e => hk (by rw [e]))⟩ (fun j e => by cases e; omega), rfl, HI.out.1.setCell (p := ⟨w.heap.size + 1, 0, none⟩) (Nat.le_succ _) _, by simpa [World.setCell] using HI.out.2.2.2.1, pre, y, rfl, HI.out.2.2.2.2, by rw [← HP.out]; exact HM.out, by rw [← HP.out]; exact blk_put HI.out.2.2.1 0 _ rfl⟩
    · have q0 : (p.1 == at_) = false := beq_eq_false_iff_ne.2 hm
      have HM := Aside0.mk hm
      clear hm hB i0 i1 i2 i3 g2
      gi_wp2
      exact ⟨KeepsFrom.refl _ _, Same.refl _ _ _, HI.out.1, HI.out.2.1, HI.out.2.2.1, HI.out.2.2.2.1, fun z hz => (List.mem_append.1 hz).elim (HI.out.2.2.2.2 z) (fun h => by rw [List.mem_singleton.1 h, ← HP.out]; exact HM.out)⟩
  case done =>
    rintro Dd ys W hDd hys ⟨hB, i0, i1, i2, i3⟩ hK
    have hdat : dat x at_ = x.s.getD at_.toNat e0 := datK_none x at_ _ (fun k hk => by
      have hm : k ∈ ys.map Subtype.val := by rw [hys]; exact mem_dn hk (by omega)
      obtain ⟨z, hz1, hz2⟩ := List.mem_map.1 hm
      rw [← hz2]; exact i3 z hz1)
    have hDW : IsD W B D vs (.slice A x.q.length c) x := HD.out.below hB
    obtain ⟨gs, cs, hvs, _, _⟩ := World.ownsRow.form hDW.rs (show 0 < x.s.length by omega)
    subst hvs
    obtain ⟨r0, r1⟩ := rowS hDW.rs at_.toNat (by omega)
    rw [← hdat] at r0
    have c0 := hDW.cells.1.1
    have k2 : W.cell? ⟨w.heap.size, 0, none⟩ = some (.int .i64 at_) := (blk_cell i0 0).trans rfl
    have k3 : W.cell? ⟨w.heap.size + 1, 0, none⟩ = some (.string (⟨#[]⟩ : ByteArray)) := (blk_cell i1 0).trans rfl
    have k4 := blk_frozen i1 0
    have q1 : (0 ≤ at_) = True := eq_true h0
    have q2 : (at_ < (x.s.length : Int)) = True := eq_true h1
    have HI1 := Aside0.mk i1
    have HBB := Aside0.mk hB
    have HK := Aside0.mk hK
    clear i0 i1 i2 i3 hB hK hDW hdat
    gi_wp2
    gi_region
    all_goals (try gi_wp2)
    have hK2 : ((W.setCell ⟨w.heap.size + 1, 0, none⟩ (.string (dat x at_))).drew).heap[Dd]? = some (.deferred (some [])) := (Below.heap_setCell W ⟨w.heap.size + 1, 0, none⟩ _ Dd (by show Dd ≠ w.heap.size + 1; omega)).trans HK.out
    have j3 : ((W.setCell ⟨w.heap.size + 1, 0, none⟩ (.string (dat x at_))).drew).heap[w.heap.size + 1]? = some (.cells #[.string (dat x at_)] 9 (0, 0)) := blk_put HI1.out 0 _ rfl
    refine ⟨by simp, .inl ⟨_, _, rfl, run_takeDeferred hK2, ?_⟩⟩
    have j4 : (((W.setCell ⟨w.heap.size + 1, 0, none⟩ (.string (dat x at_))).drew).putObj Dd (.deferred none)).cell? ⟨w.heap.size + 1, 0, none⟩ = some (.string (dat x at_)) := (World.cell?_of_block (World.putObj_heap_other (by show w.heap.size + 1 ≠ Dd; omega))).trans ((blk_cell j3 0).trans rfl)
    exact ⟨_, results_str rfl _ _ (w.heap.size + 1) _ rfl j4 Try.underlying9, rfl, below_def (by have := HBB.out.setCell (p := ⟨w.heap.size + 1, 0, none⟩) (Nat.le_succ _) (.string (dat x at_)); exact ⟨this.os, this.tape, this.output, this.size, this.block⟩) (by omega) hK2⟩
  case stop =>
    rintro Dd cc pre W hDd ⟨t, ht, hpre⟩ ⟨rfl, hB, hz3, p, y, rfl, j1, j2, j3⟩ hK
    have hj : y.1 = x.q.length - 1 - t ∧ p.map Subtype.val = dn x.q.length t := by
      rw [List.map_append, dn_succ] at hpre
      obtain ⟨e1, e2⟩ := List.append_inj' hpre rfl
      exact ⟨by simpa using e2, e1⟩
    have hdat : dat x at_ = (x.q.getD y.1 z0).2 := datK_some x at_ y.1 j2 _ y.2 (fun k h1 h2 => by
      have hm : k ∈ p.map Subtype.val := by rw [hj.2]; exact mem_dn h2 (by omega)
      obtain ⟨z, hz1, hz2⟩ := List.mem_map.1 hm
      rw [← hz2]; exact j1 z hz1)
    rw [← hdat] at j3
    gi_wp2
    refine ⟨by simp, .inl ⟨_, _, rfl, run_takeDeferred hK, ?_⟩⟩
    have j4 : (W.putObj Dd (.deferred none)).cell? ⟨w.heap.size + 1, 0, none⟩ = some (.string (dat x at_)) := (World.cell?_of_block (World.putObj_heap_other (by show w.heap.size + 1 ≠ Dd; omega))).trans ((blk_cell j3 0).trans rfl)
    exact ⟨_, results_str rfl _ _ (w.heap.size + 1) _ rfl j4 Try.underlying9, rfl, below_def hB (by omega) hK⟩
theorem data_c (hD : IsD w B D vs vq x) (hq : x.q.length < 1000000) (at_ : Int) (h0 : 0 ≤ at_) (h1 : at_ < x.s.length) :
    Calls Try.prog 45 #[.pointer (some ⟨D, 0, none⟩), .int .i64 at_] w fun e w' => e = .returned (.string (dat x at_)) ∧ Below w.heap.size w w' :=
  callsIn_wide.1 (data_w hD hq at_ h0 h1)
end
end Go.Proofs.Ytbmhfmkfkdbmdaa.DskJ
end

section
/-
  A disk's Sync.
-/
namespace Go.Proofs.Ytbmhfmkfkdbmdaa.DskT
open Go.RowKit Go.Proofs.YtbmhfmkfkdbmdaaW.PrintWords Go.Proofs.YtbmhfmkfkdbmdaaW.PrintLast Go.Proofs.YtbmhfmkfkdbmdaaW.PrintMore Go.Proofs.Ytbmhfmkfkdbmdaa.DskR Go.Proofs.Ytbmhfmkfkdbmdaa.DskQ
set_option linter.unusedVariables false
attribute [local go_sem] undef
def sy (x : Dk) : Int × Dk :=
  if x.down = true then (2, x) else if x.fuse = 0 then (2, { x with down := true }) else (0, { x with fuse := if x.fuse > 0 then x.fuse - 1 else x.fuse, s := putAll x.s x.q, q := [] })
section
variable {w : World} {B D : Nat} {vs vq : Value} {x : Dk}
set_option maxHeartbeats 4000000 in
set_option maxRecDepth 100000 in
theorem sync_c (hD : IsD w B D vs vq x) (hB : B ≤ w.heap.size) (hq : x.q.length < 1000000) (hg : ∀ p ∈ x.q, 0 ≤ p.1 ∧ p.1 < x.s.length) (hu : x.fuse < 9223372036854775808) :
    Calls Try.prog 15 #[.pointer (some ⟨D, 0, none⟩)] w fun e w' => e = .returned (.int .i64 (sy x).1) ∧ Post w B D vs vq (sy x).2 w' := by
  have hmf : ∀ (fn : Fn) (first cap : Array Value) (w : World), (Instr.makeFunc fn first cap).run Try.prog w = .ok (.func fn first cap) w := fun _ _ _ _ => rfl
  obtain ⟨w1, hw1⟩ : ∃ w1, w1 = w.alloc (.cells #[.pointer (some ⟨D, 0, none⟩)] 25) := ⟨_, rfl⟩
  have hD1 : IsD w1 B D vs vq x := by rw [hw1]; exact hD.alloc _
  have hF1 : Fr w w1 (own D vs vq) := by rw [hw1]; exact (Fr.refl _ _).alloc _
  have hb0 : w1.heap[w.heap.size]? = some (.cells #[.pointer (some ⟨D, 0, none⟩)] 25 (0, 0)) := by rw [hw1]; exact blk_new _ _
  have a0 : w1.cell? ⟨w.heap.size, 0, none⟩ = some (.pointer (some ⟨D, 0, none⟩)) := (blk_cell hb0 0).trans rfl
  obtain ⟨⟨c0, c1, c2, c3, c4⟩, f0, f1, f2, f3, f4⟩ := hD1.cells
  have hsz : w.heap.size ≤ w1.heap.size := hF1.size
  have HD := Aside0.mk hD1
  have HF := Aside0.mk hF1
  have HB0 := Aside0.mk hb0
  have HSZ := Aside0.mk (Nat.le_trans hB hsz)
  have HQ := Aside0.mk hq
  have HG := Aside0.mk hg
  have HU := Aside0.mk hu
  have HX := Aside0.mk hD.lt
  clear hD1 hF1 hb0 hsz hB hq hg hu hD
  unfold sy
  by_cases hd : x.down = true
  · rw [if_pos hd]
    rw [hd] at c4
    clear hd
    subst hw1
    go_enter Try.func15, Try.ntmps15
    go_wp2_with (go_in)
    go_ret
    exact ⟨rfl, _, _, HD.out, HF.out, fun k hk => .inl hk⟩
  rw [if_neg hd]
  rw [Bool.eq_false_iff.2 hd] at c4
  clear hd
  by_cases h2 : x.fuse = 0
  · rw [if_pos h2]
    have q4 : (x.fuse == 0) = true := beq_iff_eq.2 h2
    clear h2
    subst hw1
    go_enter Try.func15, Try.ntmps15
    go_wp2_with (go_in)
    go_ret
    exact ⟨rfl, _, _, HD.out.setDown true, HF.out.set _ _ (.inl (.inl rfl)), fun k hk => .inl hk⟩
  rw [if_neg h2]
  have q4 : (x.fuse == 0) = false := beq_eq_false_iff_ne.2 h2
  by_cases h3 : x.fuse > 0
  · rw [if_pos h3]
    have q5 : decide (x.fuse > 0) = true := decide_eq_true h3
    have q6 : wrap64 (x.fuse - 1) = x.fuse - 1 := by have := HU.out; unfold wrap64; omega
    have HE := Aside0.mk (HD.out.setFuse (x.fuse - 1))
    have HE0 : Aside0 ((w1.setCell ⟨D, 3, none⟩ (.int .i64 (x.fuse - 1))).heap[w.heap.size]? = some (.cells #[.pointer (some ⟨D, 0, none⟩)] 25 (0, 0))) := Aside0.mk (blk_far HB0.out (show w.heap.size ≠ D from Nat.ne_of_gt HX.out) _)
    have HEZ : Aside0 (B ≤ (w1.setCell ⟨D, 3, none⟩ (.int .i64 (x.fuse - 1))).heap.size) := Aside0.mk (by simpa [World.setCell] using HSZ.out)
    have HEF := Aside0.mk (HF.out.set ⟨D, 3, none⟩ (.int .i64 (x.fuse - 1)) (.inl (.inl rfl)))
    clear h2 h3
    subst hw1
    go_enter Try.func15, Try.ntmps15
    go_wp2_with (first | (go_at_call 43; refine (DskS.clo (HE.out) HEZ.out HQ.out HG.out HE0.out).mono ?_; rintro e w2 ⟨rfl, vs2, vq2, p1, p2, p3⟩; have P1 := Aside0.mk p1; have P2 := Aside0.mk p2; have P3 := Aside0.mk p3; clear p1 p2 p3) | go_in)
    go_ret
    exact ⟨rfl, vs2, vq2, P1.out, HEF.out.trans P2.out (fun k hk => .inl hk), fun k hk => (P3.out k hk).elim .inl (fun q => .inr (Nat.le_trans HEF.out.size q))⟩
  · rw [if_neg h3]
    have q5 : decide (x.fuse > 0) = false := decide_eq_false h3
    clear h2 h3
    subst hw1
    go_enter Try.func15, Try.ntmps15
    go_wp2_with (first | (go_at_call 43; refine (DskS.clo (HD.out) HSZ.out HQ.out HG.out HB0.out).mono ?_; rintro e w2 ⟨rfl, vs2, vq2, p1, p2, p3⟩; have P1 := Aside0.mk p1; have P2 := Aside0.mk p2; have P3 := Aside0.mk p3; clear p1 p2 p3) | go_in)
    go_ret
    exact ⟨rfl, vs2, vq2, P1.out, HF.out.trans P2.out (fun k hk => .inl hk), fun k hk => (P3.out k hk).elim .inl (fun q => .inr (Nat.le_trans HF.out.size q))⟩
end
end Go.Proofs.Ytbmhfmkfkdbmdaa.DskT
end

section
/-
  A disk's Read.
-/
namespace Go.Proofs.Ytbmhfmkfkdbmdaa.DskK
open Go.RowKit Go.Proofs.YtbmhfmkfkdbmdaaW.PrintWords Go.Proofs.YtbmhfmkfkdbmdaaW.PrintLast Go.Proofs.YtbmhfmkfkdbmdaaW.PrintMore Go.Proofs.Ytbmhfmkfkdbmdaa.DskR Go.Proofs.Ytbmhfmkfkdbmdaa.DskQ Go.Proofs.Ytbmhfmkfkdbmdaa.DskJ
set_option linter.unusedVariables false
attribute [local go_sem] undef
def rd (x : Dk) (at_ : Int) : ByteArray × Int :=
  if x.down = true then ((⟨#[]⟩ : ByteArray), 2) else if ¬ (0 ≤ at_ ∧ at_ < x.s.length) then ((⟨#[]⟩ : ByteArray), 4) else (dat x at_, 0)
section
variable {w : World} {B D : Nat} {vs vq : Value} {x : Dk}
set_option maxHeartbeats 4000000 in
set_option maxRecDepth 100000 in
theorem read_c (hD : IsD w B D vs vq x) (hq : x.q.length < 1000000) (at_ : Int) :
    Calls Try.prog 17 #[.pointer (some ⟨D, 0, none⟩), .int .i64 at_] w fun e w' => e = .returned (.tuple #[.string (rd x at_).1, .int .i64 (rd x at_).2]) ∧ Below w.heap.size w w' := by
  obtain ⟨g, c, rfl⟩ := DskV.form hD.rs
  obtain ⟨⟨c0, c1, c2, c3, c4⟩, f0, f1, f2, f3, f4⟩ := hD.cells
  have HD := Aside0.mk hD
  have HQ := Aside0.mk hq
  clear hD hq
  unfold rd
  by_cases hd : x.down = true
  · rw [if_pos hd]
    rw [hd] at c4
    clear hd
    go_enter Try.func17, Try.ntmps17
    go_wp2_with (go_in)
    go_ret2
    exact ⟨rfl, Below.refl _ _⟩
  rw [if_neg hd]
  rw [Bool.eq_false_iff.2 hd] at c4
  clear hd
  by_cases h0 : 0 ≤ at_
  rotate_left
  · rw [if_pos (fun h => h0 h.1)]
    have q2 : decide (at_ ≥ 0) = false := decide_eq_false h0
    clear h0
    go_enter Try.func17, Try.ntmps17
    go_wp2_with (go_in)
    go_ret2
    exact ⟨rfl, Below.refl _ _⟩
  have q2 : decide (at_ ≥ 0) = true := decide_eq_true h0
  by_cases h1 : at_ < (x.s.length : Int)
  rotate_left
  · rw [if_pos (fun h => h1 h.2)]
    have q3 : decide (at_ < (x.s.length : Int)) = false := decide_eq_false h1
    clear h0 h1
    go_enter Try.func17, Try.ntmps17
    go_wp2_with (go_in)
    go_ret2
    exact ⟨rfl, Below.refl _ _⟩
  rw [if_neg (fun h => h ⟨h0, h1⟩)]
  have q3 : decide (at_ < (x.s.length : Int)) = true := decide_eq_true h1
  have H0 := Aside0.mk h0
  have H1 := Aside0.mk h1
  clear h0 h1
  go_enter Try.func17, Try.ntmps17
  go_wp2_with (first | (go_at_call 45; refine (data_c HD.out HQ.out at_ H0.out H1.out).mono ?_; rintro e w2 ⟨rfl, hb⟩; have P1 := Aside0.mk hb; clear hb) | go_in)
  go_ret2
  exact ⟨rfl, P1.out⟩
end
end Go.Proofs.Ytbmhfmkfkdbmdaa.DskK
end

section
/-
  Fill in plain words; what waits where nothing does.
-/
namespace Go.Proofs.Ytbmhfmkfkdbmdaa.DskP
open Go.RowKit Go.Proofs.YtbmhfmkfkdbmdaaW.PrintWords Go.Proofs.YtbmhfmkfkdbmdaaW.PrintLast Go.Proofs.YtbmhfmkfkdbmdaaW.PrintMore Go.Proofs.Ytbmhfmkfkdbmdaa.DskR Go.Proofs.Ytbmhfmkfkdbmdaa.DskQ Go.Proofs.Ytbmhfmkfkdbmdaa.PDsk
set_option linter.unusedVariables false
def fillB (v : Int) : ByteArray := strOfNums (List.replicate 256 v)
theorem fill_size (v : Int) : (fillB v).size = 256 := (strOfNums_size _).trans List.length_replicate
theorem fill_loop (n : Nat) (hn : n < 1000) (v : Int) : ∀ (d j k : Nat), j + d = n → d < k → umbellaw06_Fill.l0 k v (List.replicate j v ++ List.replicate d 0) (j : Int) = some (strOfNums (List.replicate n v))
  | 0, j, k, hj, hk => by
    obtain ⟨k1, rfl⟩ : ∃ k1, k = k1 + 1 := ⟨k - 1, by omega⟩
    obtain rfl : j = n := by omega
    rw [umbellaw06_Fill.l0, if_neg (by rw [List.length_append, List.length_replicate, List.length_replicate]; omega), List.replicate_zero, List.append_nil]
  | d + 1, j, k, hj, hk => by
    obtain ⟨k1, rfl⟩ : ∃ k1, k = k1 + 1 := ⟨k - 1, by omega⟩
    rw [umbellaw06_Fill.l0, if_pos (by rw [List.length_append, List.length_replicate, List.length_replicate]; omega), if_pos (by omega), w_succ j (by omega), Int.toNat_natCast]
    have e : (List.replicate j v ++ List.replicate (d + 1) (0 : Int)).set j v = List.replicate (j + 1) v ++ List.replicate d 0 := by
      rw [List.set_append_right _ _ (by simp), List.length_replicate, Nat.sub_self, List.replicate_succ, List.set_cons_zero, List.replicate_succ' (n := j), List.append_assoc]; rfl
    rw [e]
    exact fill_loop n hn v d (j + 1) k1 (by omega) (by omega)
theorem fill_eq (k : Nat) (v : Int) (r : Option ByteArray) (N : Nat) (hN : N = 256) (h : umbellaw06_Fill.l0 k v (List.replicate N 0) 0 = r) : umbellaw06_Fill.f k v = r := by
  rw [hN] at h
  exact (if_pos (by decide)).trans h
theorem fillB_eq (v : Int) (N : Nat) (hN : N = 256) : fillB v = strOfNums (List.replicate N v) := by rw [hN]; rfl
theorem fill_f (v : Int) : umbellaw06_Fill.f 300 v = some (fillB v) := by
  obtain ⟨N, hN⟩ : ∃ N : Nat, N = 256 := ⟨_, rfl⟩
  refine fill_eq 300 v _ N hN ?_
  rw [fillB_eq v N hN]
  exact fill_loop N (by omega) v N 0 300 (Nat.zero_add N) (by omega)
theorem fill_c (v : Int) (w : World) : Calls Try.prog 14 #[.int .u8 v] w fun e w' => e = .returned (.string (fillB v)) ∧ Below w.heap.size w w' := umbellaw06_Fill.calls 300 v _ w (fill_f v)
section
variable {w : World} {B D : Nat} {vs : Value} {x : Dk}
set_option maxRecDepth 100000 in
theorem clone_nil (w : World) : Calls Try.prog 46 #[.slice none 0 0] w fun e w' => e = .returned (.slice none 0 0) ∧ Below w.heap.size w w' := by
  go_enter Try.func46, Try.ntmps46
  go_wp2_with fail
  rw [show Sem.run Try.prog (binOp BinOp.eql 41 (Value.slice none 0 0) (Value.slice none 0 0)) w = .ok (.bool true) w from rfl]
  simp only [Result.andThen_ok]
  go_wp2_with fail
  go_ret
  exact ⟨rfl, Below.refl _ _⟩
set_option maxRecDepth 100000 in
theorem waiting_none (h : IsD w B D vs (.slice none 0 0) x) : Calls Try.prog 19 #[.pointer (some ⟨D, 0, none⟩)] w fun e w' => e = .returned (.slice none 0 0) ∧ Below w.heap.size w w' := by
  obtain ⟨⟨c0, c1, c2, c3, c4⟩, f0, f1, f2, f3, f4⟩ := h.cells
  go_enter Try.func19, Try.ntmps19
  go_wp2_with (go_at_call 46; refine (clone_nil _).mono ?_; rintro e w1 ⟨rfl, hb⟩; have HB := Aside0.mk hb; clear hb)
  go_ret
  exact ⟨rfl, HB.out⟩
end
end Go.Proofs.Ytbmhfmkfkdbmdaa.DskP
end
