import Derived.Test.YtbmhfmkfkdbmdaaDskH
import Derived.RangeFuncNested
import Derived.RangeFuncBound
import Derived.RangeFuncBox
import Derived.RangeFuncCalls
import Derived.RangeFuncLeaves
import Derived.Shelf.Abstract
import Derived.Shelf.RegionOpen
import Derived.WalkKit
import Derived.OwnWalkIn
import Derived.TacticsInMore
import Derived.LoopNIn
import Derived.LoopIn
section
/-
  A disk from pages.
-/
namespace Go.Proofs.Ytbmhfmkfkdbmdaa.DskF
open Go.RowKit Go.Proofs.YtbmhfmkfkdbmdaaW.PrintWords Go.Proofs.YtbmhfmkfkdbmdaaW.PrintLast Go.Proofs.YtbmhfmkfkdbmdaaW.PrintMore Go.Proofs.Ytbmhfmkfkdbmdaa.DskR Go.Proofs.Ytbmhfmkfkdbmdaa.DskQ
set_option linter.unusedVariables false
attribute [local go_sem] undef
theorem C_cells {w : World} {A : Option Addr} {l : List ByteArray} (h : Kd.C Kd.string w A l.length l) (hn : 0 < l.length) : ∃ bk o, A = some ⟨bk, o, none⟩ ∧ bk < w.heap.size ∧ ∀ (j : Nat) x, l[j]? = some x → w.cell? ⟨bk, o + j, none⟩ = some (.string x) := by
  have hr := Kd.reads_of_C (enc := Value.string) (d := ByteArray.empty) (h1 := fun _ => rfl) h
  obtain ⟨⟨bk, o, e⟩, hA, hc⟩ := hr.2.2 hn
  have h0 := hc 0 hn
  have he : e = none := by
    cases e with
    | none => rfl
    | some _ =>
      exfalso
      simp only [World.cell?, Addr.add] at h0
      split at h0 <;> simp at h0
  subst he
  refine ⟨bk, o, hA, World.block_lt_of_cell? w _ h0, fun j x hx => ?_⟩
  have hj : j < l.length := (List.getElem?_eq_some_iff.1 hx).1
  have h2 := hc j hj
  rw [List.getD_eq_getElem?_getD, hx] at h2
  have e : (⟨bk, o, none⟩ : Addr).add j = ⟨bk, o + j, none⟩ := by unfold Addr.add; split <;> simp_all
  rw [e] at h2
  exact h2
theorem C_len {w : World} {A : Option Addr} {l : List ByteArray} (h : Kd.C Kd.string w A l.length l) : l.length ≤ 9223372036854775807 :=
  (Kd.reads_of_C (enc := Value.string) (d := ByteArray.empty) (h1 := fun _ => rfl) h).2.1
theorem lam_c (x : ByteArray) (w : World) : Calls Try.prog 48 #[.string x] w fun e w' => e = .returned (.bool ((x.size : Int) != 256)) ∧ w' = w := by
  go_enter Try.func48, Try.ntmps48
  go_wp2
  go_ret
  exact ⟨rfl, rfl⟩
theorem contains_c (A : Option Addr) (c : Nat) (l : List ByteArray) (w : World) (hr : Kd.C Kd.string w A l.length l) :
    Calls Try.prog 47 #[.slice A l.length c, .func (.func 48) #[] #[]] w fun e w' => e = .returned (.bool (l.any fun x => (x.size : Int) != 256)) ∧ Below w.heap.size w w' := by
  by_cases hn : 0 < l.length
  · obtain ⟨bk, o, rfl, hbk, hcl⟩ := C_cells hr hn
    refine (Try.slices_ContainsFunc Value.string (fun x => (x.size : Int) != 256) 48 #[] (fun args w => by simp only [callFunc, go_sem]; rfl) bk o l.length c l w ?_ (Nat.le_refl _) (C_len hr) ?_).mono ?_
    · intro W x _
      refine (lam_c x W).mono ?_
      rintro e w' ⟨rfl, rfl⟩
      exact ⟨rfl, 0, rfl⟩
    · intro j hj
      refine hcl j _ ?_
      rw [List.getElem?_eq_getElem hj, getElem!_pos l j hj]
    · rintro e w' ⟨rfl, q, rfl⟩
      rw [List.take_length]
      exact ⟨rfl, pw_below_drewN (Below.refl _ _) q⟩
  · obtain rfl : l = [] := List.eq_nil_of_length_eq_zero (by omega)
    refine (Try.slices_ContainsFunc_empty (α := Nat) A c _ w).mono ?_
    rintro e w' ⟨rfl, rfl⟩
    exact ⟨rfl, Below.refl _ _⟩
theorem clone_c (A : Option Addr) (c : Nat) (l : List ByteArray) (hl : l.length ≤ 1000000) (w : World) (hr : Kd.C Kd.string w A l.length l) :
    Calls Try.prog 49 #[.slice A l.length c] w fun e w' => ∃ A' c', e = .returned (.slice A' l.length c') ∧ w'.ownsRow w.heap.size 9 1 (.slice A' l.length c') l.length (sC l) ∧ Below w.heap.size w w' := by
  by_cases hn : 0 < l.length
  · obtain ⟨bk, o, rfl, hbk, hcl⟩ := C_cells hr hn
    refine (Try.slices_Clone_string bk o l.length c l w (Nat.le_refl _) (by omega) (fun j hj => hcl j _ (by rw [List.getElem?_eq_getElem hj, List.getD_eq_getElem?_getD, List.getElem?_eq_getElem hj]; rfl))).mono ?_
    rintro e w' ⟨v, rfl, ho, _, hb⟩
    rw [List.take_length] at ho
    obtain ⟨A', c', rfl⟩ := DskV.form ho
    exact ⟨A', c', rfl, ho, hb⟩
  · obtain rfl : l = [] := List.eq_nil_of_length_eq_zero (by omega)
    cases A with
    | none =>
      refine (Try.slices_Clone_string_nil _ c w).mono ?_
      rintro e w' ⟨rfl, rfl⟩
      exact ⟨none, 0, rfl, World.ownsRow_nil _ _ _ _, Below.refl _ _⟩
    | some a =>
      refine (Try.slices_Clone_string_zero a c w).mono ?_
      rintro e w' ⟨v, rfl, ho, _, hb⟩
      obtain ⟨A', c', rfl⟩ := DskV.form ho
      exact ⟨A', c', rfl, ho, hb⟩
/-- May a disk be made of these? -/
def okD (l : List ByteArray) (limit : Int) : Bool := decide (1 ≤ limit) && decide (limit ≤ 200) && decide ((l.length : Int) ≤ limit) && !(l.any fun x => (x.size : Int) != 256)
def Made (w : World) (l : List ByteArray) (limit : Int) (e : Ending) (w' : World) : Prop :=
  Below w.heap.size w w' ∧ if okD l limit = true then ∃ D vs, e = .returned (.tuple #[.pointer (some ⟨D, 0, none⟩), .bool true]) ∧ IsD w' w.heap.size D vs (.slice none 0 0) ⟨l, [], limit, -1, false⟩ else e = .returned (.tuple #[.pointer none, .bool false])
set_option maxHeartbeats 4000000 in
set_option maxRecDepth 100000 in
theorem from_c (A : Option Addr) (c : Nat) (l : List ByteArray) (limit : Int) (w : World) (hr : Kd.C Kd.string w A l.length l) : Calls Try.prog 21 #[.slice A l.length c, .int .i64 limit] w (Made w l limit) := by
  by_cases h1 : limit < 1
  · have hk : okD l limit = false := by unfold okD; rw [decide_eq_false (show ¬ 1 ≤ limit by omega)]; rfl
    have q1 : decide (limit < 1) = true := decide_eq_true h1
    unfold Made
    rw [hk]
    clear h1 hr hk
    go_enter Try.func21, Try.ntmps21
    go_wp2_with fail
    go_ret2
    exact ⟨Below.refl _ _, rfl⟩
  have q1 : decide (limit < 1) = false := decide_eq_false h1
  by_cases h2 : limit > 200
  · have hk : okD l limit = false := by unfold okD; rw [decide_eq_false (show ¬ limit ≤ 200 by omega)]; simp
    have q2 : decide (limit > 200) = true := decide_eq_true h2
    unfold Made
    rw [hk]
    clear h1 h2 hr hk
    go_enter Try.func21, Try.ntmps21
    go_wp2_with fail
    go_ret2
    exact ⟨Below.refl _ _, rfl⟩
  have q2 : decide (limit > 200) = false := decide_eq_false h2
  by_cases h3 : (l.length : Int) > limit
  · have hk : okD l limit = false := by unfold okD; rw [decide_eq_false (show ¬ (l.length : Int) ≤ limit by omega)]; simp
    have q3 : decide ((l.length : Int) > limit) = true := decide_eq_true h3
    unfold Made
    rw [hk]
    clear h1 h2 h3 hr hk
    go_enter Try.func21, Try.ntmps21
    go_wp2_with fail
    go_ret2
    exact ⟨Below.refl _ _, rfl⟩
  have q3 : decide ((l.length : Int) > limit) = false := decide_eq_false h3
  have hl : l.length ≤ 1000000 := by omega
  have HR := Aside0.mk hr
  have HL := Aside0.mk hl
  cases h4 : (l.any fun x => (x.size : Int) != 256) with
  | true =>
    have hk : okD l limit = false := by unfold okD; rw [h4]; simp
    have CC := Aside0.mk (show Calls Try.prog 47 #[.slice A l.length c, .func (.func 48) #[] #[]] w fun e w' => e = .returned (.bool true) ∧ Below w.heap.size w w' by have := contains_c A c l w hr; rw [h4] at this; exact this)
    unfold Made
    rw [hk]
    clear h1 h2 h3 hr hk h4 hl
    go_enter Try.func21, Try.ntmps21
    go_wp2_with (go_at_call 47; refine CC.out.mono ?_; rintro e w1 ⟨rfl, hb⟩; have HB := Aside0.mk hb; clear hb)
    go_ret2
    exact ⟨HB.out, rfl⟩
  | false =>
    have hk : okD l limit = true := by unfold okD; rw [h4, decide_eq_true (show 1 ≤ limit by omega), decide_eq_true (show limit ≤ 200 by omega), decide_eq_true (show (l.length : Int) ≤ limit by omega)]; rfl
    have CC := Aside0.mk (show Calls Try.prog 47 #[.slice A l.length c, .func (.func 48) #[] #[]] w fun e w' => e = .returned (.bool false) ∧ Below w.heap.size w w' by have := contains_c A c l w hr; rw [h4] at this; exact this)
    unfold Made
    rw [hk]
    clear h1 h2 h3 hr hk h4 hl
    go_enter Try.func21, Try.ntmps21
    go_wp2_with (first | (go_at_call 47; refine CC.out.mono ?_; rintro e w1 ⟨rfl, hb⟩; have HB := Aside0.mk hb; clear hb) | (go_at_call 49; refine (clone_c A c l HL.out _ (Kd.C_below HR.out HB.out)).mono ?_; rintro e w2 ⟨A', c', rfl, ho, hb⟩; have HO := Aside0.mk ho; have HB2 := Aside0.mk (below_step HB.out hb); have HZ := Aside0.mk HB.out.size; clear ho hb))
    go_ret2
    refine ⟨below_alloc HB2.out _, ?_⟩
    exact ⟨_, rfl, _, ⟨blk_new _ _, HB2.out.size, (HO.out.mono HZ.out).alloc _, World.ownsRow_nil _ _ _ _⟩⟩
theorem new_c (limit : Int) (w : World) : Calls Try.prog 11 #[.int .i64 limit] w (Made w [] limit) := by
  have C := Aside0.mk (from_c none 0 [] limit w ⟨rfl, by decide, fun h => absurd h (by decide)⟩)
  unfold Made at *
  cases hk : okD [] limit with
  | true =>
    rw [hk] at C
    simp only [if_pos] at C ⊢
    go_enter Try.func11, Try.ntmps11
    go_wp2_with (go_at_call 21; refine C.out.mono ?_; rintro e w1 ⟨hb, D, vs, rfl, hd⟩; have HB := Aside0.mk hb; have HD := Aside0.mk hd; clear hb hd)
    go_ret2
    exact ⟨HB.out, D, vs, rfl, HD.out⟩
  | false =>
    rw [hk] at C
    simp only [if_neg (show ¬ (false = true) by decide)] at C ⊢
    go_enter Try.func11, Try.ntmps11
    go_wp2_with (go_at_call 21; refine C.out.mono ?_; rintro e w1 ⟨hb, rfl⟩; have HB := Aside0.mk hb; clear hb)
    go_ret2
    exact ⟨HB.out, rfl⟩
end Go.Proofs.Ytbmhfmkfkdbmdaa.DskF
end

section
/-
  A page some of whose sectors were written.
-/
namespace Go.Proofs.Ytbmhfmkfkdbmdaa.DskU
open Go.RowKit Go.Proofs.YtbmhfmkfkdbmdaaW.PrintWords Go.Proofs.YtbmhfmkfkdbmdaaW.PrintLast Go.Proofs.YtbmhfmkfkdbmdaaW.PrintMore Go.Proofs.Ytbmhfmkfkdbmdaa.DskR Go.Proofs.Ytbmhfmkfkdbmdaa.DskQ
set_option linter.unusedVariables false
theorem join4 (bk : Nat) (s0 s1 s2 s3 : ByteArray) (t : TypeId) (w : World) (h : w.heap[bk]? = some (.cells #[.string s0, .string s1, .string s2, .string s3] t (0, 0))) (h0 : s0.size ≤ 64) (h1 : s1.size ≤ 64) (h2 : s2.size ≤ 64) (h3 : s3.size ≤ 64) :
    Calls Try.prog 61 #[.slice (some ⟨bk, 0, none⟩) 4 4, .string (⟨#[]⟩ : ByteArray)] w fun e w' => e = .returned (.string (s0 ++ (s1 ++ (s2 ++ s3)))) ∧ Below w.heap.size w w' := by
  refine (Try.strings_Join bk 0 4 [s0, s1, s2, s3] (⟨#[]⟩ : ByteArray) w (fun j x hj => ?_) (blk_lt h) (by simp) (by simp) ?_).mono ?_
  · rw [Nat.zero_add, blk_cell h j]
    match j, hj with
    | 0, hj => cases hj; rfl
    | 1, hj => cases hj; rfl
    | 2, hj => cases hj; rfl
    | 3, hj => cases hj; rfl
    | j + 4, hj => simp at hj
  · have e0 : s0.data.toList.length ≤ 64 := by simpa using h0
    have e1 : s1.data.toList.length ≤ 64 := by simpa using h1
    have e2 : s2.data.toList.length ≤ 64 := by simpa using h2
    have e3 : s3.data.toList.length ≤ 64 := by simpa using h3
    simp [Lib.join] at e0 e1 e2 e3 ⊢
    omega
  · rintro e w' ⟨rfl, hb⟩
    refine ⟨?_, hb⟩
    congr 2
    apply ByteArray.ext
    apply Array.toList_inj.1
    simp [Lib.join]
/-- The i-th sector. -/
def sec (a b : ByteArray) (c : Nat) (i : Nat) : ByteArray := (if decide (c / 2 ^ i % 2 = 1) = true then b else a).extract (i * 64) ((i + 1) * 64)
def tornB (a b : ByteArray) (c : Nat) : ByteArray := sec a b c 0 ++ (sec a b c 1 ++ (sec a b c 2 ++ sec a b c 3))
theorem bit1 : ∀ n : Nat, n < 256 → (Go.bits BinOp.and IntKind.u8 (n : Int) 1 == 1) = decide (n % 2 = 1) := by decide +kernel
set_option maxHeartbeats 8000000 in
set_option maxRecDepth 100000 in
theorem torn_w (a b : ByteArray) (ha : a.size = 256) (hb : b.size = 256) (c : Int) (w : World) : ∀ (p0 p1 p2 p3 : Bool), (Go.bits BinOp.and IntKind.u8 c 1 == 1) = p0 → (Go.bits BinOp.and IntKind.u8 (c / 2) 1 == 1) = p1 → (Go.bits BinOp.and IntKind.u8 (c / 4) 1 == 1) = p2 → (Go.bits BinOp.and IntKind.u8 (c / 8) 1 == 1) = p3 →
    Calls Try.prog 44 #[.string a, .string b, .int .u8 c] w fun e w' => e = .returned (.string ((if p0 = true then b else a).extract 0 64 ++ ((if p1 = true then b else a).extract 64 128 ++ ((if p2 = true then b else a).extract 128 192 ++ (if p3 = true then b else a).extract 192 256)))) ∧ Below w.heap.size w w' := by
  intro p0 p1 p2 p3 q0 q1 q2 q3
  cases p0 <;> cases p1 <;> cases p2 <;> cases p3
  all_goals go_enter Try.func44, Try.ntmps44
  all_goals go_wp2_with fail
  all_goals refine wp_loop_rounds 5 ?_
  all_goals rw [rounds_succ]
  all_goals go_wp2_with fail
  all_goals rw [rounds_succ]
  all_goals go_wp2_with fail
  all_goals rw [rounds_succ]
  all_goals go_wp2_with fail
  all_goals rw [rounds_succ]
  all_goals go_wp2_with fail
  all_goals rw [rounds_succ]
  all_goals go_wp2_with (go_at_call 61; refine (join4 _ _ _ _ _ _ _ (blk_new _ _) (by rw [ByteArray.size_extract]; omega) (by rw [ByteArray.size_extract]; omega) (by rw [ByteArray.size_extract]; omega) (by rw [ByteArray.size_extract]; omega)).mono ?_; rintro e w1 ⟨rfl, hw⟩; have HB := Aside0.mk (below_step (below_alloc (Below.refl _ _) _) hw); clear hw)
  all_goals go_ret
  all_goals exact ⟨by simp, HB.out⟩
theorem torn_c (a b : ByteArray) (ha : a.size = 256) (hb : b.size = 256) (c : Nat) (hc : c < 256) (w : World) :
    Calls Try.prog 44 #[.string a, .string b, .int .u8 (c : Int)] w fun e w' => e = .returned (.string (tornB a b c)) ∧ Below w.heap.size w w' := by
  have e1 := bit1 (c / 2) (by omega)
  have e2 := bit1 (c / 4) (by omega)
  have e3 := bit1 (c / 8) (by omega)
  exact torn_w a b ha hb (c : Int) w _ _ _ _ (by rw [bit1 c hc]; simp) (by rw [← e1]; simp) (by rw [← e2]; simp) (by rw [← e3]; simp)
end Go.Proofs.Ytbmhfmkfkdbmdaa.DskU
end

section
/-
  A disk's Crash.
-/
namespace Go.Proofs.Ytbmhfmkfkdbmdaa.DskC
open Go.RowKit Go.Proofs.YtbmhfmkfkdbmdaaW.PrintWords Go.Proofs.YtbmhfmkfkdbmdaaW.PrintLast Go.Proofs.YtbmhfmkfkdbmdaaW.PrintMore Go.Proofs.Ytbmhfmkfkdbmdaa.DskR Go.Proofs.Ytbmhfmkfkdbmdaa.DskQ
set_option linter.unusedVariables false
/-- Torn pages, as far as the choice goes. -/
def tear (s : List ByteArray) : List (Int × ByteArray) → List Int → List ByteArray
  | p :: q, c :: l => tear (s.set p.1.toNat (DskU.tornB (s.getD p.1.toNat e0) p.2 c.toNat)) q l
  | _, _ => s
def crash (x : Dk) (l : List Int) : Dk := ⟨tear x.s x.q l, [], x.cap, -1, false⟩
theorem tear_nil (s : List ByteArray) (q : List (Int × ByteArray)) : tear s q [] = s := by cases q <;> rfl
theorem sec_size (a b : ByteArray) (ha : a.size = 256) (hb : b.size = 256) (c i : Nat) (hi : i < 4) : (DskU.sec a b c i).size = 64 := by
  unfold DskU.sec
  rw [ByteArray.size_extract]
  split <;> omega
theorem torn_size (a b : ByteArray) (ha : a.size = 256) (hb : b.size = 256) (c : Nat) : (DskU.tornB a b c).size = 256 := by
  unfold DskU.tornB
  rw [ByteArray.size_append, ByteArray.size_append, ByteArray.size_append, sec_size a b ha hb c 0 (by decide), sec_size a b ha hb c 1 (by decide), sec_size a b ha hb c 2 (by decide), sec_size a b ha hb c 3 (by decide)]
theorem getD_mem {s : List ByteArray} {i : Nat} (h : i < s.length) : s.getD i e0 ∈ s := by rw [List.getD_eq_getElem?_getD, List.getElem?_eq_getElem h]; exact List.getElem_mem h
/-- As Post, with nothing that waits. -/
def PostN (w : World) (B D : Nat) (vs vq : Value) (x' : Dk) (w' : World) : Prop :=
  ∃ vs', IsD w' B D vs' (.slice none 0 0) x' ∧ Fr w w' (own D vs vq) ∧ ∀ k, own D vs' (.slice none 0 0) k → own D vs vq k ∨ w.heap.size ≤ k
section
variable {w : World} {B D : Nat} {vs vq : Value} {x : Dk}
theorem add_block (ad : Addr) (i : Nat) : (ad.add i).block = ad.block := by unfold Addr.add; split <;> rfl
set_option maxHeartbeats 8000000 in
set_option maxRecDepth 100000 in
theorem crash_c (hD : IsD w B D vs vq x) (hq : x.q.length < 1000000) (hg : ∀ p ∈ x.q, 0 ≤ p.1 ∧ p.1 < x.s.length) (hs6 : ∀ p ∈ x.s, p.size = 256) (hq6 : ∀ p ∈ x.q, p.2.size = 256) (CA : Option Addr) (cc : Nat) (l : List Int) (hl : ∀ c ∈ l, 0 ≤ c ∧ c < 256) (hr : Kd.C (Kd.int .u8) w CA l.length l) (hsep : 0 < l.length → ∀ ad, CA = some ad → ¬ own D vs vq ad.block ∧ ad.block < w.heap.size) :
    Calls Try.prog 16 #[.pointer (some ⟨D, 0, none⟩), .slice CA l.length cc] w fun e w' => e = .returned (.tuple #[]) ∧ PostN w B D vs vq (crash x l) w' := by
  obtain ⟨A, c, rfl⟩ := DskV.form hD.rq
  obtain ⟨⟨c0, c1, c2, c3, c4⟩, f0, f1, f2, f3, f4⟩ := hD.cells
  have HD := Aside0.mk hD
  have HQ := Aside0.mk hq
  have HG := Aside0.mk hg
  have HS6 := Aside0.mk hs6
  have HQ6 := Aside0.mk hq6
  have HLc := Aside0.mk hl
  have HR := Aside0.mk hr
  have HSP := Aside0.mk hsep
  have HF := Aside0.mk (Fr.refl w (own D vs (.slice A x.q.length c)))
  clear hD hq hg hs6 hq6 hl hr hsep
  go_enter Try.func16, Try.ntmps16
  go_wp2_with fail
  go_loopg [13] (x.q.length + 1) (fun gk v13 w' => ∃ (i : Nat) (s' : List ByteArray), v13 = .int .i64 (i : Int) ∧ Aside0 (gk + i = x.q.length + 1) ∧ Aside0 (s'.length = x.s.length ∧ ∀ p ∈ s', p.size = 256) ∧ Aside0 (tear s' (x.q.drop i) (l.drop i) = tear x.s x.q l) ∧ Aside0 (IsD w' B D vs (.slice A x.q.length c) { x with s := s' }) ∧ Aside0 (Fr w w' (own D vs (.slice A x.q.length c))))
  case atStart => exact ⟨0, x.s, rfl, ⟨rfl⟩, ⟨rfl, HS6.out⟩, ⟨rfl⟩, HD, HF⟩
  case round =>
    clear HD HF c0 c1 c2 c3 c4 f0 f1 f2 f3 f4
    obtain ⟨i, s', rfl, HK, HL, HP, HD, HF⟩ := hrel
    obtain ⟨⟨c0, c1, c2, c3, c4⟩, f0, f1, f2, f3, f4⟩ := HD.out.cells
    by_cases hi : i < x.q.length
    · have q0 : decide ((i : Int) < (x.q.length : Int)) = true := decide_eq_true (by omega)
      obtain ⟨gq, cq, hv, _, hgq⟩ := World.ownsRow.form HD.out.rq (show 0 < x.q.length by omega)
      simp only [Value.slice.injEq, true_and] at hv
      obtain ⟨rfl, rfl⟩ := hv
      have HI := Aside0.mk hi
      obtain ⟨k0, k1⟩ := rowQ HD.out.rq i hi
      have HPD := Aside0.mk (drop_at x.q i hi)
      have hmem : x.q.getD i z0 ∈ x.q := by rw [List.getD_eq_getElem?_getD, List.getElem?_eq_getElem hi]; exact List.getElem_mem hi
      have hpm := HG.out _ hmem
      have hp6 := HQ6.out _ hmem
      obtain ⟨p, hp⟩ : ∃ p, p = x.q.getD i z0 := ⟨_, rfl⟩
      rw [← hp] at k0 k1 HPD hpm hp6
      clear hp hmem
      obtain ⟨pa, pt⟩ := p
      simp only at k0 k1 HPD hpm hp6
      rw [← HL.out.1] at hpm
      obtain ⟨gs, cs, hvs, _, hgs⟩ := World.ownsRow.form HD.out.rs (show 0 < s'.length by omega)
      subst hvs
      have q1 : (0 ≤ (i : Int)) = True := eq_true (by omega)
      have q2 : ((i : Int) < (x.q.length : Int)) = True := eq_true (by omega)
      have HPM := Aside0.mk hpm
      have HP6 := Aside0.mk hp6
      cases gk with
      | zero => exact absurd HK.out (by omega)
      | succ k1_ =>
      by_cases hc : i < l.length
      · have q3 : decide ((i : Int) < (l.length : Int)) = true := decide_eq_true (by omega)
        have q4 : (i < l.length) = True := eq_true hc
        have q5 : ((i : Int) < (l.length : Int)) = True := eq_true (by omega)
        obtain ⟨ad, hCA, hcc⟩ := Kd.at_int (Kd.C_below HR.out (show Below w.heap.size w w from Below.refl _ _)) (i : Int) (by omega) (by omega)
        have hsp := HSP.out (by omega) ad hCA
        subst hCA
        obtain ⟨cv, hcv⟩ : ∃ cv, cv = Go.Proofs.YtbmhfmkfkdbmdaaW.PrintWords.rd l (i : Int) := ⟨_, rfl⟩
        have hcvm : cv ∈ l := by rw [hcv]; simp [Go.Proofs.YtbmhfmkfkdbmdaaW.PrintWords.rd, hc]
        have HLD := Aside0.mk (show l.drop i = cv :: l.drop (i + 1) by rw [List.drop_eq_getElem_cons hc, hcv]; simp [Go.Proofs.YtbmhfmkfkdbmdaaW.PrintWords.rd, hc])
        rw [← hcv, Int.toNat_natCast] at hcc
        clear hcv
        have HCV := Aside0.mk (HLc.out cv hcvm)
        have hch : wr.cell? (ad.add i) = some (.int .u8 cv) := (World.cell?_of_block (show wr.heap[(ad.add i).block]? = w.heap[(ad.add i).block]? by rw [add_block]; exact HF.out.block _ hsp.2 hsp.1)).trans hcc
        clear hi hc hgq hgs hpm hp6 hcc hcvm
        go_wp2_with fail
        obtain ⟨w1, hw1⟩ : ∃ w1, w1 = wr.alloc (.cells #[.int .i64 pa, .string pt] 76) := ⟨_, rfl⟩
        obtain ⟨gb, hgb⟩ : ∃ gb, gb = wr.heap.size := ⟨_, rfl⟩
        have HD1 : Aside0 (IsD w1 B D _ _ _) := Aside0.mk (by rw [hw1]; exact HD.out.alloc _)
        have HF1 : Aside0 (Fr w w1 _) := Aside0.mk (by rw [hw1]; exact HF.out.alloc _)
        have hb : w1.heap[gb]? = some (.cells #[.int .i64 pa, .string pt] 76 (0, 0)) := by rw [hw1, hgb]; exact blk_new _ _
        have hch1 : w1.cell? (ad.add i) = some (.int .u8 cv) := (World.cell?_of_block (show w1.heap[(ad.add i).block]? = wr.heap[(ad.add i).block]? by rw [hw1]; exact Below.heap_alloc wr _ _ (World.block_lt_of_cell? wr _ hch))).trans hch
        rw [← hw1, ← hgb]
        have d0 := HD1.out.cells.1.1
        have d2 : w1.cell? ⟨gb, 0, none⟩ = some (.int .i64 pa) := (blk_cell hb 0).trans rfl
        have d3 : w1.cell? ⟨gb, 1, none⟩ = some (.string pt) := (blk_cell hb 1).trans rfl
        have hlt0 : pa.toNat < s'.length := by have := HPM.out; omega
        obtain ⟨j0, j1⟩ := rowS HD1.out.rs pa.toNat hlt0
        obtain ⟨old, hold⟩ : ∃ old, old = s'.getD pa.toNat e0 := ⟨_, rfl⟩
        have HO6 := Aside0.mk (show old.size = 256 by rw [hold]; exact HL.out.2 _ (getD_mem hlt0))
        have HOLD := Aside0.mk hold
        have j0' : w1.cell? ⟨gs, pa.toNat, none⟩ = some (.string old) := by rw [hold]; exact j0
        have HFZ := Aside0.mk hlt0
        obtain ⟨cn, hcn⟩ : ∃ cn : Nat, cv = (cn : Int) := ⟨cv.toNat, by have := HCV.out; omega⟩
        subst hcn
        have r1 : (0 ≤ pa) = True := eq_true HPM.out.1
        have r2 : (pa < (s'.length : Int)) = True := eq_true HPM.out.2
        have hgbl : gb < w1.heap.size := blk_lt hb
        have HGB := Aside0.mk hgbl
        clear HD HF hw1 hgb hb c0 c1 c2 c3 c4 f0 f1 f2 f3 f4 k0 k1 q0 q1 q2 q3 j0 j1 hold hlt0 hch hgbl
        have g0 : w1.drew.cell? ⟨D, 0, none⟩ = some (.slice (some ⟨gs, 0, none⟩) s'.length cs) := d0
        have g1 : w1.drew.cell? ⟨gb, 0, none⟩ = some (.int .i64 pa) := d2
        have g2 : w1.drew.cell? ⟨gb, 1, none⟩ = some (.string pt) := d3
        have g3 : w1.drew.cell? ⟨gs, pa.toNat, none⟩ = some (.string old) := j0'
        have g4 : w1.drew.cell? (ad.add i) = some (.int .u8 (cn : Int)) := hch1
        clear d0 d2 d3 j0' hch1

        refine start_ (n := 23) (S := (fun w' => w'.cell? ⟨D, 0, none⟩ = some (.slice (some ⟨gs, 0, none⟩) s'.length cs) ∧ w'.cell? ⟨gb, 0, none⟩ = some (.int .i64 pa) ∧ w'.cell? ⟨gb, 1, none⟩ = some (.string pt) ∧ w'.cell? ⟨gs, pa.toNat, none⟩ = some (.string old) ∧ w'.cell? (ad.add i) = some (.int .u8 (cn : Int)))) (ds := [22]) #[false, false, false, false, false, false, false, false, false, false, false, false, false, false, false, false, false, false, false, false, false, false, false] (by kernel_rfl) rfl rfl ⟨g0, g1, g2, g3, g4⟩ (fun hHeld => ?_)
        refine pure_ (i := 0) (N := (some 22)) (v := ?_) (a' := ?_) #[true, false, false, false, false, false, false, false, false, false, false, false, false, false, false, false, false, false, false, false, false, false, false] rfl rfl (by kernel_rfl) (fun _ _ _ h => h) (Or.inl ⟨by rfl, ?_⟩) ?_ ?_
        rotate_left
        · intro w'
          go_simp
          with_reducible rfl
        rotate_left
        · simp only [Act.put, List.setIfInBounds_toArray, List.set_cons_zero, List.set_cons_succ]
          rfl
        refine pure_ (i := 1) (N := (some 23)) (v := ?_) (a' := ?_) #[true, true, false, false, false, false, false, false, false, false, false, false, false, false, false, false, false, false, false, false, false, false, false] rfl rfl (by kernel_rfl) (fun _ _ _ h => h) (Or.inl ⟨by rfl, ?_⟩) ?_ ?_
        rotate_left
        · intro w'
          go_simp
          with_reducible rfl
        rotate_left
        · simp only [Act.put, List.setIfInBounds_toArray, List.set_cons_zero, List.set_cons_succ]
          rfl
        refine pure_ (i := 2) (N := (some 24)) (v := ?_) (a' := ?_) #[true, true, true, false, false, false, false, false, false, false, false, false, false, false, false, false, false, false, false, false, false, false, false] rfl rfl (by kernel_rfl) (fun _ _ _ h => h) (Or.inl ⟨by rfl, ?_⟩) ?_ ?_
        rotate_left
        · intro w'
          go_simp
          with_reducible rfl
        rotate_left
        · simp only [Act.put, List.setIfInBounds_toArray, List.set_cons_zero, List.set_cons_succ]
          rfl
        refine take_ (i := 3) (N := (some 25)) (v := ?_) (a' := ?_) #[true, true, true, true, false, false, false, false, false, false, false, false, false, false, false, false, false, false, false, false, false, false, false] rfl rfl (by kernel_rfl) (fun _ _ _ h => h) (Or.inl ⟨by rfl, ?_⟩) hHeld ?_ ?_
        rotate_left
        · rintro w' ⟨s0, s1, s2, s3, s4⟩
          go_simp
          with_reducible rfl
        rotate_left
        · simp only [Act.put, List.setIfInBounds_toArray, List.set_cons_zero, List.set_cons_succ]
          rfl
        refine pure_ (i := 4) (N := (some 26)) (v := ?_) (a' := ?_) #[true, true, true, true, true, false, false, false, false, false, false, false, false, false, false, false, false, false, false, false, false, false, false] rfl rfl (by kernel_rfl) (fun _ _ _ h => h) (Or.inl ⟨by rfl, ?_⟩) ?_ ?_
        rotate_left
        · intro w'
          go_simp
          with_reducible rfl
        rotate_left
        · simp only [Act.put, List.setIfInBounds_toArray, List.set_cons_zero, List.set_cons_succ]
          rfl
        refine take_ (i := 5) (N := (some 27)) (v := ?_) (a' := ?_) #[true, true, true, true, true, true, false, false, false, false, false, false, false, false, false, false, false, false, false, false, false, false, false] rfl rfl (by kernel_rfl) (fun _ _ _ h => h) (Or.inl ⟨by rfl, ?_⟩) hHeld ?_ ?_
        rotate_left
        · rintro w' ⟨s0, s1, s2, s3, s4⟩
          go_simp
          with_reducible rfl
        rotate_left
        · simp only [Act.put, List.setIfInBounds_toArray, List.set_cons_zero, List.set_cons_succ]
          rfl
        refine pure_ (i := 6) (N := (some 28)) (v := ?_) (a' := ?_) #[true, true, true, true, true, true, true, false, false, false, false, false, false, false, false, false, false, false, false, false, false, false, false] rfl rfl (by kernel_rfl) (fun _ _ _ h => h) (Or.inl ⟨by rfl, ?_⟩) ?_ ?_
        rotate_left
        · intro w'
          go_simp
          with_reducible rfl
        rotate_left
        · simp only [Act.put, List.setIfInBounds_toArray, List.set_cons_zero, List.set_cons_succ]
          rfl
        refine pure_ (i := 7) (N := (some 29)) (v := ?_) (a' := ?_) #[true, true, true, true, true, true, true, true, false, false, false, false, false, false, false, false, false, false, false, false, false, false, false] rfl rfl (by kernel_rfl) (fun _ _ _ h => h) (Or.inl ⟨by rfl, ?_⟩) ?_ ?_
        rotate_left
        · intro w'
          go_simp
          with_reducible rfl
        rotate_left
        · simp only [Act.put, List.setIfInBounds_toArray, List.set_cons_zero, List.set_cons_succ]
          rfl
        refine pure_ (i := 8) (N := (some 30)) (v := ?_) (a' := ?_) #[true, true, true, true, true, true, true, true, true, false, false, false, false, false, false, false, false, false, false, false, false, false, false] rfl rfl (by kernel_rfl) (fun _ _ _ h => h) (Or.inl ⟨by rfl, ?_⟩) ?_ ?_
        rotate_left
        · intro w'
          go_simp
          with_reducible rfl
        rotate_left
        · simp only [Act.put, List.setIfInBounds_toArray, List.set_cons_zero, List.set_cons_succ]
          rfl
        refine take_ (i := 9) (N := (some 31)) (v := ?_) (a' := ?_) #[true, true, true, true, true, true, true, true, true, true, false, false, false, false, false, false, false, false, false, false, false, false, false] rfl rfl (by kernel_rfl) (fun _ _ _ h => h) (Or.inl ⟨by rfl, ?_⟩) hHeld ?_ ?_
        rotate_left
        · rintro w' ⟨s0, s1, s2, s3, s4⟩
          go_simp
          with_reducible rfl
        rotate_left
        · simp only [Act.put, List.setIfInBounds_toArray, List.set_cons_zero, List.set_cons_succ]
          rfl
        refine pure_ (i := 10) (N := (some 32)) (v := ?_) (a' := ?_) #[true, true, true, true, true, true, true, true, true, true, true, false, false, false, false, false, false, false, false, false, false, false, false] rfl rfl (by kernel_rfl) (fun _ _ _ h => h) (Or.inl ⟨by rfl, ?_⟩) ?_ ?_
        rotate_left
        · intro w'
          go_simp
          with_reducible rfl
        rotate_left
        · simp only [Act.put, List.setIfInBounds_toArray, List.set_cons_zero, List.set_cons_succ]
          rfl
        refine take_ (i := 11) (N := (some 33)) (v := ?_) (a' := ?_) #[true, true, true, true, true, true, true, true, true, true, true, true, false, false, false, false, false, false, false, false, false, false, false] rfl rfl (by kernel_rfl) (fun _ _ _ h => h) (Or.inl ⟨by rfl, ?_⟩) hHeld ?_ ?_
        rotate_left
        · rintro w' ⟨s0, s1, s2, s3, s4⟩
          go_simp
          with_reducible rfl
        rotate_left
        · simp only [Act.put, List.setIfInBounds_toArray, List.set_cons_zero, List.set_cons_succ]
          rfl
        refine pure_ (i := 12) (N := (some 34)) (v := ?_) (a' := ?_) #[true, true, true, true, true, true, true, true, true, true, true, true, true, false, false, false, false, false, false, false, false, false, false] rfl rfl (by kernel_rfl) (fun _ _ _ h => h) (Or.inl ⟨by rfl, ?_⟩) ?_ ?_
        rotate_left
        · intro w'
          go_simp
          with_reducible rfl
        rotate_left
        · simp only [Act.put, List.setIfInBounds_toArray, List.set_cons_zero, List.set_cons_succ]
          rfl
        refine take_ (i := 13) (N := (some 35)) (v := ?_) (a' := ?_) #[true, true, true, true, true, true, true, true, true, true, true, true, true, true, false, false, false, false, false, false, false, false, false] rfl rfl (by kernel_rfl) (fun _ _ _ h => h) (Or.inl ⟨by rfl, ?_⟩) hHeld ?_ ?_
        rotate_left
        · rintro w' ⟨s0, s1, s2, s3, s4⟩
          go_simp
          with_reducible rfl
        rotate_left
        · simp only [Act.put, List.setIfInBounds_toArray, List.set_cons_zero, List.set_cons_succ]
          rfl
        refine pure_ (i := 14) (N := (some 36)) (v := ?_) (a' := ?_) #[true, true, true, true, true, true, true, true, true, true, true, true, true, true, true, false, false, false, false, false, false, false, false] rfl rfl (by kernel_rfl) (fun _ _ _ h => h) (Or.inl ⟨by rfl, ?_⟩) ?_ ?_
        rotate_left
        · intro w'
          go_simp
          with_reducible rfl
        rotate_left
        · simp only [Act.put, List.setIfInBounds_toArray, List.set_cons_zero, List.set_cons_succ]
          rfl
        refine take_ (i := 15) (N := (some 37)) (v := ?_) (a' := ?_) #[true, true, true, true, true, true, true, true, true, true, true, true, true, true, true, true, false, false, false, false, false, false, false] rfl rfl (by kernel_rfl) (fun _ _ _ h => h) (Or.inl ⟨by rfl, ?_⟩) hHeld ?_ ?_
        rotate_left
        · rintro w' ⟨s0, s1, s2, s3, s4⟩
          go_simp
          with_reducible rfl
        rotate_left
        · simp only [Act.put, List.setIfInBounds_toArray, List.set_cons_zero, List.set_cons_succ]
          rfl
        refine pure_ (i := 16) (N := (some 38)) (v := ?_) (a' := ?_) #[true, true, true, true, true, true, true, true, true, true, true, true, true, true, true, true, true, false, false, false, false, false, false] rfl rfl (by kernel_rfl) (fun _ _ _ h => h) (Or.inl ⟨by rfl, ?_⟩) ?_ ?_
        rotate_left
        · intro w'
          go_simp
          with_reducible rfl
        rotate_left
        · simp only [Act.put, List.setIfInBounds_toArray, List.set_cons_zero, List.set_cons_succ]
          rfl
        refine pure_ (i := 17) (N := (some 39)) (v := ?_) (a' := ?_) #[true, true, true, true, true, true, true, true, true, true, true, true, true, true, true, true, true, true, false, false, false, false, false] rfl rfl (by kernel_rfl) (fun _ _ _ h => h) (Or.inl ⟨by rfl, ?_⟩) ?_ ?_
        rotate_left
        · intro w'
          go_simp
          with_reducible rfl
        rotate_left
        · simp only [Act.put, List.setIfInBounds_toArray, List.set_cons_zero, List.set_cons_succ]
          rfl
        refine pure_ (i := 18) (N := (some 40)) (v := ?_) (a' := ?_) #[true, true, true, true, true, true, true, true, true, true, true, true, true, true, true, true, true, true, true, false, false, false, false] rfl rfl (by kernel_rfl) (fun _ _ _ h => h) (Or.inl ⟨by rfl, ?_⟩) ?_ ?_
        rotate_left
        · intro w'
          go_simp
          with_reducible rfl
        rotate_left
        · simp only [Act.put, List.setIfInBounds_toArray, List.set_cons_zero, List.set_cons_succ]
          rfl
        refine take_ (i := 19) (N := (some 41)) (v := ?_) (a' := ?_) #[true, true, true, true, true, true, true, true, true, true, true, true, true, true, true, true, true, true, true, true, false, false, false] rfl rfl (by kernel_rfl) (fun _ _ _ h => h) (Or.inl ⟨by rfl, ?_⟩) hHeld ?_ ?_
        rotate_left
        · rintro w' ⟨s0, s1, s2, s3, s4⟩
          go_simp
          with_reducible rfl
        rotate_left
        · simp only [Act.put, List.setIfInBounds_toArray, List.set_cons_zero, List.set_cons_succ]
          rfl
        refine one_ (i := 20) (N := some 42) #[true, true, true, true, true, true, true, true, true, true, true, true, true, true, true, true, true, true, true, true, true, false, false] rfl rfl (by kernel_rfl) (by decide) (fun K hK => ?_)
        refine goes_ Try.func44 (by kernel_rfl) rfl #[.string old, .string pt, .int .u8 (cn : Int)] (by rfl) rfl rfl (by (try simp only [List.map_toArray, List.map_cons, List.map_nil]); first | done | rfl) ?_
        refine (DskU.torn_c old pt HO6.out HP6.out cn (by have := HCV.out; omega) _).mono ?_
        rintro e w2 ⟨rfl, hb⟩
        refine ⟨_, rfl, ?_⟩
        have HD2 := Aside0.mk (HD1.out.drew.below hb)
        have HF2 := Aside0.mk (HF1.out.drew.trans (Fr.of_below (S := own D (.slice (some ⟨gs, 0, none⟩) s'.length cs) (.slice (some ⟨gq, 0, none⟩) x.q.length c)) hb) (fun k hk => .inl hk))
        have t0 := HD2.out.cells.1.1
        have t1 := (hb.cell (p := ⟨gb, 0, none⟩) HGB.out).trans g1
        have t2 := (hb.cell (p := ⟨gb, 1, none⟩) HGB.out).trans g2
        obtain ⟨t3, t5⟩ := rowS HD2.out.rs pa.toNat HFZ.out
        have t3' : w2.cell? ⟨gs, pa.toNat, none⟩ = some (.string old) := by rw [HOLD.out]; exact t3
        have t4 := (hb.cell (p := ad.add i) (World.block_lt_of_cell? _ _ g4)).trans g4
        clear HD1 HF1 g0 g1 g2 g3 g4 hb t3
        refine hK.out _ _ ⟨t0, t1, t2, t3', t4⟩ (fun hHeld => ?_)
        clear hK K
        refine norm_ (a' := ?_) ?_ ?_
        rotate_left
        · show Act.put _ (some 42) _ = _
          simp only [Act.put, List.setIfInBounds_toArray, List.set_cons_zero, List.set_cons_succ]
          rfl
        refine pure_ (i := 21) (N := (some 43)) (v := ?_) (a' := ?_) #[true, true, true, true, true, true, true, true, true, true, true, true, true, true, true, true, true, true, true, true, true, true, false] rfl rfl (by kernel_rfl) (fun _ _ _ h => h) (Or.inl ⟨by rfl, ?_⟩) ?_ ?_
        rotate_left
        · intro w'
          go_simp
          with_reducible rfl
        rotate_left
        · simp only [Act.put, List.setIfInBounds_toArray, List.set_cons_zero, List.set_cons_succ]
          rfl
        refine last_ (i := 22) (N := none) #[true, true, true, true, true, true, true, true, true, true, true, true, true, true, true, true, true, true, true, true, true, true, true] rfl rfl (by kernel_rfl) (by decide) (fun K hK => ?_)
        refine skip_ (w1 := ?_) (by rfl) rfl ?_ ?_
        rotate_left
        · go_simp
          rfl
        refine hK.out _ _ ?_
        clear hK K
        refine done_ (by kernel_rfl) ?_
        go_wp2_with fail
        go_roundg k1_
        case measure => omega
        case rel => exact ⟨i + 1, s'.set pa.toNat (DskU.tornB old pt cn), by rw [← w_succ i (Nat.lt_trans HI.out (Nat.lt_of_lt_of_le HQ.out (by decide)))], ⟨by have := HK.out; omega⟩, ⟨by rw [List.length_set]; exact HL.out.1, fun p hp => (List.mem_or_eq_of_mem_set hp).elim (HL.out.2 p) (fun e => by rw [e]; exact torn_size old pt HO6.out HP6.out cn)⟩, ⟨by have := HP.out; rw [HPD.out, HLD.out] at this; simp only [tear, Int.toNat_natCast] at this; rw [HOLD.out]; exact this⟩, ⟨by have := put (x := { x with s := s' }) HD2.out pa.toNat (DskU.tornB old pt cn); simp only [List.length_set] at this; exact this⟩, ⟨HF2.out.set _ _ (.inl (.inr (.inl rfl)))⟩⟩
      · have q3 : decide ((i : Int) < (l.length : Int)) = false := decide_eq_false (by omega)
        have q4 : (i < l.length) = False := eq_false hc
        have HLD := Aside0.mk (show l.drop i = [] ∧ l.drop (i + 1) = [] from ⟨List.drop_eq_nil_of_le (by omega), List.drop_eq_nil_of_le (by omega)⟩)
        clear hi hc hgq hgs hpm hp6
        go_wp2_with fail
        go_roundg k1_
        case measure => omega
        case rel => exact ⟨i + 1, s', by rw [← w_succ i (Nat.lt_trans HI.out (Nat.lt_of_lt_of_le HQ.out (by decide)))], ⟨by have := HK.out; omega⟩, HL, ⟨by have := HP.out; rw [HLD.out.1, tear_nil] at this; rw [HLD.out.2, tear_nil]; exact this⟩, ⟨HD.out.alloc _⟩, ⟨HF.out.alloc _⟩⟩
    · have q0 : decide ((i : Int) < (x.q.length : Int)) = false := decide_eq_false (by omega)
      have hdr : x.q.drop i = [] := List.drop_eq_nil_of_le (by omega)
      have hs : s' = tear x.s x.q l := by have := HP.out; rw [hdr] at this; simpa [tear] using this
      have hni : (i < x.q.length) = False := eq_false hi
      clear hi hdr
      go_wp2_with fail
      go_end0
      subst hs
      exact ⟨rfl, vs, ((HD.out.setQ (l := []) (World.ownsRow_nil _ _ _ _) (by simp [Value.ownBlock])).setDown false).setFuse (-1), ((HF.out.set _ _ (.inl (.inl rfl))).set _ _ (.inl (.inl rfl))).set _ _ (.inl (.inl rfl)), fun k hk => hk.elim (fun e => .inl (.inl e)) (fun q => q.elim (fun q => .inl (.inr (.inl q))) (fun q => by simp [Value.ownBlock] at q))⟩
end
end Go.Proofs.Ytbmhfmkfkdbmdaa.DskC
end

section
/-
  slices.Backward's iterator over what waits.
-/
namespace Go.Proofs.Ytbmhfmkfkdbmdaa.DskI
open Go.RowKit Go.Shelf Go.Proofs.Ytbmhfmkfkdbmdaa.DskR Go.Proofs.Ytbmhfmkfkdbmdaa.DskQ
attribute [local go_sem] Oper.semAt_some
set_option linter.unusedVariables false
set_option maxHeartbeats 1000000 in
theorem back_in0 (F : Fence) (n : Nat) (h5 : F.fn 62) (hro : F.round = none) (A : Option Addr) (m c : Nat) (w : World) :
    CallsIn F n Try.prog 62 #[.slice A m c] w fun e w' => e = .returned (.func (.func 70) #[] #[.pointer (some ⟨w.heap.size, 0, none⟩)]) ∧ w' = w.alloc (.cells #[.slice A m c] 41) := by
  refine callsIn_of_wp Try.func62 rfl h5 ?_ hro
  simp only [Try.ntmps62, List.size_toArray, List.length_cons, List.length_nil, Nat.reduceAdd, Nat.reduceSub, Array.replicate_succ, Array.replicate_zero, List.push_toArray, List.append_toArray, List.nil_append, List.cons_append]
  gi_wp2
  go_ret
  exact ⟨rfl, rfl⟩
/-- All blocks below N but R lie as they lay. -/
def Same (N R : Nat) (W W' : World) : Prop := ∀ k, k < N → k ≠ R → W'.heap[k]? = W.heap[k]?
theorem Same.refl (N R : Nat) (W : World) : Same N R W W := fun _ _ _ => rfl
theorem Same.trans {N R : Nat} {A B C : World} (h : Same N R A B) (k : Same N R B C) : Same N R A C := fun i h1 h2 => (k i h1 h2).trans (h i h1 h2)
theorem Same.cell {N R : Nat} {W W' : World} (h : Same N R W W') {p : Addr} (h1 : p.block < N) (h2 : p.block ≠ R) : W'.cell? p = W.cell? p := World.cell?_of_block (h p.block h1 h2)
theorem same_b {N R : Nat} {w : World} (hb : N ≤ w.heap.size) (W : World) (l : Nat) (o o' : Obj) (hl : w.heap.size ≤ l) (h : W.heap[l]? = some o) (_ : o.isCells = false) (_ : o.isWalk = false) : Same N R W (W.putObj l o') :=
  fun k hk _ => World.putObj_heap_other (by omega)
abbrev At (q : List (Int × ByteArray)) := { k : Nat // k < q.length }
def encs (q : List (Int × ByteArray)) (x : At q) : Array Value := #[.int .i64 (x.1 : Int), .agg #[.int .i64 (q.getD x.1 z0).1, .string (q.getD x.1 z0).2]]
/-- The first t of the indices from the last one down. -/
def dn (m t : Nat) : List Nat := (List.range t).map fun i => m - 1 - i
theorem dn_succ (m t : Nat) : dn m (t + 1) = dn m t ++ [m - 1 - t] := by simp [dn, List.range_succ]
theorem dn_length (m t : Nat) : (dn m t).length = t := by simp [dn]
set_option maxRecDepth 100000 in
set_option maxHeartbeats 2000000 in
theorem back1_in (F : Fence) (n : Nat) (h7 : F.fn 70) (hro : F.round = none) (hn : 1 ≤ n) (l Bs N R B cap : Nat) (A : Option Addr) (q : List (Int × ByteArray)) (hl : q.length < 1000000) (hBs : Bs < N) (hBR : Bs ≠ R)
    (hgq : ∀ ad, A = some ad → ad.block < N ∧ ad.block ≠ R) (J Jx : List (At q) → World → Prop)
    (hY : ∀ pre (x : At q) W, J pre W → pre.length < q.length → YieldAt F (n - 1) Try.prog l (encs q x) W fun e W' =>
      (e = .returned (.bool true) ∧ J (pre ++ [x]) W' ∧ Same N R W W') ∨ (e = .returned (.bool false) ∧ Jx (pre ++ [x]) W'))
    (W : World) (hs : W.cell? ⟨Bs, 0, none⟩ = some (.slice A q.length cap)) (hr : W.ownsRow B 76 2 (.slice A q.length cap) q.length (qC q)) (h0 : J [] W) (hJ : AbidesFrom W.heap.size J) :
    CallsIn F n Try.prog 70 #[.func (.yield l) #[] #[], .pointer (some ⟨Bs, 0, none⟩)] W fun e W' => (∃ v, e = .returned v) ∧
      ((∃ ys : List (At q), ys.map Subtype.val = dn q.length q.length ∧ J ys W') ∨ (∃ pre : List (At q), (∃ t, t < q.length ∧ pre.map Subtype.val = dn q.length (t + 1)) ∧ Jx pre W')) := by
  refine callsIn_of_wp Try.func70 rfl h7 ?_ hro
  simp only [Try.ntmps70, List.size_toArray, List.length_cons, List.length_nil, Nat.reduceAdd, Nat.reduceSub, Array.replicate_succ, Array.replicate_zero, List.push_toArray, List.append_toArray, List.nil_append, List.cons_append]
  gi_wp2
  gi_loopw [3] (fun i wr => ∃ (k : Nat) (pre : List (At q)), k ≤ q.length ∧ i = .int .i64 ((k : Int) - 1) ∧ pre.map Subtype.val = dn q.length (q.length - k) ∧ J pre wr ∧ Same N R W wr)
    (fun i _ => (intOf i + 1).toNat)
  case atStart => exact ⟨q.length, [], Nat.le_refl _, by first | rfl | (congr 1; omega), by rw [Nat.sub_self]; rfl, h0, Same.refl _ _ _⟩
  case round =>
    obtain ⟨k, pre, hk, rfl, hpre, hJs, hnx⟩ := hrel
    have hs' := (hnx.cell (p := ⟨Bs, 0, none⟩) hBs hBR).trans hs
    have hpl : pre.length = q.length - k := by have := congrArg List.length hpre; simpa [dn_length] using this
    cases k with
    | zero =>
      gi_wp2
      go_end0
      exact ⟨⟨_, rfl⟩, .inl ⟨pre, by simpa using hpre, hJs⟩⟩
    | succ j =>
      have hj : j < q.length := by omega
      have ej : (((j + 1 : Nat) : Int) - 1) = (j : Int) := by omega
      obtain ⟨g, c', hv, _, _⟩ := World.ownsRow.form hr (by omega)
      simp only [Value.slice.injEq, true_and] at hv
      obtain ⟨rfl, rfl⟩ := hv
      obtain ⟨g1, g2⟩ := hgq _ rfl
      have hrow := rowQ hr j hj
      have k0 := (hnx.cell (p := ⟨g, j * 2, none⟩) g1 g2).trans hrow.1
      have k1 := (hnx.cell (p := ⟨g, j * 2 + 1, none⟩) g1 g2).trans hrow.2
      have q1 : (0 ≤ (j : Int)) = True := eq_true (by omega)
      have q2 : ((j : Int) < (q.length : Int)) = True := eq_true (by omega)
      have q3 : decide ((j : Int) ≥ 0) = true := decide_eq_true (by omega)
      obtain ⟨fn, tmps, assign, body, hy, hR⟩ := hY pre ⟨j, hj⟩ wr hJs (by omega)
      dsimp only [encs] at hy
      obtain ⟨p, hp⟩ : ∃ p, p = q.getD j z0 := ⟨_, rfl⟩
      rw [← hp] at k0 k1 hy
      rw [ej]
      clear hrow hp
      gi_wp2
      refine hR.mono ?_
      rintro e W3 (⟨rfl, hJ3, hk3⟩ | ⟨rfl, hJx3⟩)
      · clear hR hy
        gi_wp2
        go_roundw
        case rel => exact ⟨j, pre ++ [⟨j, hj⟩], by omega, rfl, by rw [List.map_append, hpre, show q.length - j = (q.length - (j + 1)) + 1 by omega, dn_succ]; congr 1; first | (simp; done) | (simp; omega), hJ3, hnx.trans hk3⟩
        case measure => first | (simp [intOf]; done) | (simp [intOf]; omega)
      · clear hR hy
        gi_wp2
        refine bodyPost_ret (results_none rfl _ _ _) rfl ?_
        exact ⟨⟨_, rfl⟩, .inr ⟨_, ⟨q.length - (j + 1), by omega, by rw [List.map_append, hpre, dn_succ]; congr 1; first | (simp; done) | (simp; omega)⟩, hJx3⟩⟩
theorem back_stops (F : Fence) (n : Nat) (h7 : F.fn 70) (hro : F.round = none) (hn : 1 ≤ n) (Bs N R B cap : Nat) (A : Option Addr) (q : List (Int × ByteArray)) (hl : q.length < 1000000) (hBs : Bs < N) (hBR : Bs ≠ R)
    (hgq : ∀ ad, A = some ad → ad.block < N ∧ ad.block ≠ R) (w : World) (hN : N ≤ w.heap.size) (hs : w.cell? ⟨Bs, 0, none⟩ = some (.slice A q.length cap)) (hr : w.ownsRow B 76 2 (.slice A q.length cap) q.length (qC q)) :
    SeqStopsK F n Try.prog 70 #[.pointer (some ⟨Bs, 0, none⟩)] (encs q) (Same N R) (fun ys => ys.map Subtype.val = dn q.length q.length) (fun pre => ∃ t, t < q.length ∧ pre.map Subtype.val = dn q.length (t + 1)) q.length w := by
  intro l J Jx W hW hJ hJx hY h0
  have hlt : ∀ k, (Value.slice A q.length cap).ownBlock = some k → k < w.heap.size := fun k hk => (hr.lt k hk).2
  refine (back1_in F n h7 hro hn l Bs N R B cap A q hl hBs hBR hgq J Jx hY W ((hW.cell (p := ⟨Bs, 0, none⟩) (Nat.lt_of_lt_of_le hBs hN)).trans hs) (row_same hr (fun k hk => hW.block k (hlt k hk))) h0 hJ).mono ?_
  rintro e W' ⟨he, ⟨ys, hys, hj⟩ | ⟨pre, hp, hj⟩⟩
  · exact ⟨he, .inl ⟨ys, hys, hj⟩⟩
  · exact ⟨he, .inr ⟨pre, hp, hj⟩⟩
end Go.Proofs.Ytbmhfmkfkdbmdaa.DskI
end
