import Derived.Test.YtbmhfmkfkdbmdaaDskI
import Derived.Test.YtbmhfmkfkdbmdaaDskH
import Derived.Test.YtbmhfmkfkdbmdaaWWords
import Derived.Test.YtbmhfmkfkdbmdaaWMore
import Derived.Test.YtbmhfmkfkdbmdaaDskW
import Derived.Deep.DeepMust
section
/-
  What is read of a page.
-/
namespace Go.Proofs.Ytbmhfmkfkdbmdaa.DskJ
open Go.RowKit Go.Proofs.YtbmhfmkfkdbmdaaW.PrintWords Go.Proofs.YtbmhfmkfkdbmdaaW.PrintMore Go.Proofs.Ytbmhfmkfkdbmdaa.DskR Go.Proofs.Ytbmhfmkfkdbmdaa.DskQ Go.Proofs.Ytbmhfmkfkdbmdaa.DskI
attribute [local go_sem] Oper.semAt_some
set_option linter.unusedVariables false
def datK (x : Dk) (at_ : Int) : Nat → ByteArray
  | 0 => x.s.getD at_.toNat e0
  | k + 1 => if (x.q.getD k z0).1 = at_ then (x.q.getD k z0).2 else datK x at_ k
def dat (x : Dk) (at_ : Int) : ByteArray := datK x at_ x.q.length
theorem datK_none (x : Dk) (at_ : Int) : ∀ m, (∀ k, k < m → (x.q.getD k z0).1 ≠ at_) → datK x at_ m = x.s.getD at_.toNat e0
  | 0, _ => rfl
  | m + 1, h => by rw [datK, if_neg (h m (Nat.lt_succ_self m)), datK_none x at_ m (fun k hk => h k (Nat.lt_succ_of_lt hk))]
theorem datK_some (x : Dk) (at_ : Int) (j : Nat) (hj : (x.q.getD j z0).1 = at_) : ∀ m, j < m → (∀ k, j < k → k < m → (x.q.getD k z0).1 ≠ at_) → datK x at_ m = (x.q.getD j z0).2
  | 0, h, _ => by omega
  | m + 1, h, hn => by
    by_cases e : j = m
    · rw [datK, ← e, if_pos hj]
    · rw [datK, if_neg (hn m (by omega) (Nat.lt_succ_self m)), datK_some x at_ j hj m (by omega) (fun k h1 h2 => hn k h1 (Nat.lt_succ_of_lt h2))]
theorem mem_dn {m t k : Nat} (h1 : k < m) (h2 : m - 1 - k < t) : k ∈ dn m t := List.mem_map.2 ⟨m - 1 - k, List.mem_range.2 h2, by omega⟩
theorem results_str {fn : Func} {p : Tmp} {ty : TypeId} (h : fn.results = #[.cell p ty]) (tmps : Array Value) (w : World) (g : Nat) (s : ByteArray) {P : Program} (hp : tmps.getD p undef = .pointer (some ⟨g, 0, none⟩)) (hc : w.cell? ⟨g, 0, none⟩ = some (.string s)) (hu : P.underlying ty = some .string) :
    (results fn tmps).run P w = .ok (.string s) w := by
  have hp' : tmps[p]?.getD undef = .pointer (some ⟨g, 0, none⟩) := by simpa using hp
  have ha : (isAgg ty).run P w = .ok false w := run_isAgg_plain hu rfl w
  simp [results, h, hp', asAddr, loadVar, go_sem, ha, hc]
theorem below_def {B : Nat} {w W : World} {l : Nat} {o o' : Obj} (h : Below B w W) (hl : B ≤ l) (ho : W.heap[l]? = some o) : Below B w (W.putObj l o') :=
  ⟨h.os, h.tape, h.output, by have := h.size; simpa [World.putObj] using this, fun k hk => (World.putObj_heap_other (by omega)).trans (h.block k hk)⟩
/-- What the loop keeps: nothing below turned, nothing was met. -/
def Inv (w : World) (at_ : Int) (q : List (Int × ByteArray)) (pre : List (At q)) (W : World) : Prop :=
  Below w.heap.size w W ∧ W.heap[w.heap.size]? = some (.cells #[.int .i64 at_] 3 (0, 0)) ∧ W.heap[w.heap.size + 1]? = some (.cells #[.string (⟨#[]⟩ : ByteArray)] 9 (0, 0)) ∧ w.heap.size + 3 ≤ W.heap.size ∧ ∀ y ∈ pre, (q.getD y.1 z0).1 ≠ at_
def Got (w : World) (at_ : Int) (q : List (Int × ByteArray)) (c : Code) (pre : List (At q)) (W : World) : Prop :=
  c = .ret ∧ Below w.heap.size w W ∧ w.heap.size + 3 ≤ W.heap.size ∧ ∃ (p : List (At q)) (y : At q), pre = p ++ [y] ∧ (∀ y ∈ p, (q.getD y.1 z0).1 ≠ at_) ∧ (q.getD y.1 z0).1 = at_ ∧ W.heap[w.heap.size + 1]? = some (.cells #[.string (q.getD y.1 z0).2] 9 (0, 0))
theorem below_turn {w W W' : World} {n : Nat} {row : Option Nat} (h : Below w.heap.size w W) (hz : w.heap.size + 3 ≤ n) (hg : W.grownBy W' row) (hr : ∀ r, row = some r → n ≤ r ∧ ∃ o : Obj, W.heap[r]? = some o ∧ o.isCells = false) : Below w.heap.size w W' :=
  h.grown hg h.size (fun k hk => by have := (hr k hk).1; omega)
theorem blk_turn {W W' : World} {n k : Nat} {row : Option Nat} {o : Obj} (h : W.heap[k]? = some o) (hk : k < n) (hg : W.grownBy W' row) (hr : ∀ r, row = some r → n ≤ r ∧ ∃ o : Obj, W.heap[r]? = some o ∧ o.isCells = false) : W'.heap[k]? = some o :=
  (hg.block k (blk_lt h) (fun e => by have := (hr k e.symm).1; omega)).trans h
theorem inv_own (w : World) (at_ : Int) (q : List (Int × ByteArray)) (n : Nat) (hn : w.heap.size + 3 ≤ n) : OwnFrom n (Inv w at_ q) := by
  rintro s W W' row ⟨h1, h2, h3, h4, h5⟩ hg hr
  exact ⟨below_turn h1 hn hg hr, blk_turn h2 (by omega) hg hr, blk_turn h3 (by omega) hg hr, Nat.le_trans h4 hg.size, h5⟩
theorem got_own (w : World) (at_ : Int) (q : List (Int × ByteArray)) (n : Nat) (hn : w.heap.size + 3 ≤ n) (c : Code) : OwnFrom n (Got w at_ q c) := by
  rintro s W W' row ⟨h0, h1, h4, p, y, h5, h6, h7, h8⟩ hg hr
  exact ⟨h0, below_turn h1 hn hg hr, Nat.le_trans h4 hg.size, p, y, h5, h6, h7, blk_turn h8 (by omega) hg hr⟩
section
variable {w : World} {B D : Nat} {vs vq : Value} {x : Dk}
set_option maxRecDepth 100000 in
set_option maxHeartbeats 4000000 in
theorem data_w (hD : IsD w B D vs vq x) (hq : x.q.length < 1000000) (at_ : Int) (h0 : 0 ≤ at_) (h1 : at_ < x.s.length) :
    CallsIn Fence.wide 6 Try.prog 45 #[.pointer (some ⟨D, 0, none⟩), .int .i64 at_] w fun e w' => e = .returned (.string (dat x at_)) ∧ Below w.heap.size w w' := by
  have h1' : 1 ≤ 6 := by omega
  have hro : Fence.wide.round = none := rfl
  obtain ⟨A, c, rfl⟩ := DskV.form hD.rq
  obtain ⟨w1, hw1⟩ : ∃ w1, w1 = (w.alloc (.cells #[.int .i64 at_] 3)).alloc (.cells #[.string (⟨#[]⟩ : ByteArray)] 9) := ⟨_, rfl⟩
  have hD1 : IsD w1 B D vs (.slice A x.q.length c) x := by rw [hw1]; exact (hD.alloc _).alloc _
  obtain ⟨⟨c0, c1, c2, c3, c4⟩, f0, f1, f2, f3, f4⟩ := hD1.cells
  have HD := Aside0.mk hD
  clear hD1
  subst hw1
  refine callsIn_of_wp_marks Try.func45 rfl trivial ?_ rfl
  simp only [Try.ntmps45, List.size_toArray, List.length_cons, List.length_nil, Nat.reduceAdd, Nat.reduceSub, Array.replicate_succ, Array.replicate_zero, List.push_toArray, List.append_toArray, List.nil_append, List.cons_append]
  gi_wp2_with (refine ⟨trivial, ?_⟩; gi_at_call 62; refine (back_in0 Fence.wide (6 - 1) trivial rfl _ _ _ _).mono ?_; rintro e w' ⟨rfl, rfl⟩)
  obtain ⟨w3, hw3⟩ : ∃ w3, w3 = ((w.alloc (.cells #[.int .i64 at_] 3)).alloc (.cells #[.string (⟨#[]⟩ : ByteArray)] 9)).alloc (.cells #[.slice A x.q.length c] 41) := ⟨_, rfl⟩
  have B3 : Below w.heap.size w w3 := by rw [hw3]; exact below_alloc (below_alloc (below_alloc (Below.refl _ _) _) _) _
  have hz : w3.heap.size = w.heap.size + 3 := by rw [hw3]; simp
  have b0 : w3.heap[w.heap.size]? = some (.cells #[.int .i64 at_] 3 (0, 0)) := by rw [hw3]; exact blk_alloc (blk_alloc (blk_new _ _) _) _
  have b1 : w3.heap[w.heap.size + 1]? = some (.cells #[.string (⟨#[]⟩ : ByteArray)] 9 (0, 0)) := by
    rw [hw3]; exact blk_alloc (by have := blk_new (w.alloc (.cells #[.int .i64 at_] 3)) (.cells #[.string (⟨#[]⟩ : ByteArray)] 9); simpa using this) _
  have b2 : w3.heap[w.heap.size + 1 + 1]? = some (.cells #[.slice A x.q.length c] 41 (0, 0)) := by
    rw [hw3]; have := blk_new ((w.alloc (.cells #[.int .i64 at_] 3)).alloc (.cells #[.string (⟨#[]⟩ : ByteArray)] 9)) (.cells #[.slice A x.q.length c] 41); simpa using this
  have hD3 : IsD w3 B D vs (.slice A x.q.length c) x := HD.out.below B3
  have hgq : ∀ ad, A = some ad → ad.block < w.heap.size + 3 ∧ ad.block ≠ w.heap.size + 1 := by
    rintro ad rfl
    have := (HD.out.rq.lt ad.block rfl).2
    omega
  have hseq := back_stops Fence.wide (6 - 1) trivial rfl (by omega) (w.heap.size + 1 + 1) (w.heap.size + 3) (w.heap.size + 1) B c A x.q hq (by omega) (by omega) hgq w3 (by omega) ((blk_cell b2 0).trans rfl) hD3.rq
  rw [← hw3]
  have hlD := HD.out.lt
  clear hw3 c0 c1 c2 c3 c4 f0 f1 f2 f3 f4
  refine wpIn_rangeFunc_ownH hro h1' (gf := 70) (lb := #[.pointer (some ⟨w.heap.size + 1 + 1, 0, none⟩)]) rfl trivial (enters_of Try.func70 (by kernel_rfl) rfl)
    hseq (Same.trans) (same_b (by omega)) (Below.refl _ _) (fun _ => rfl)
    (Inv w at_ x.q) (Got w at_ x.q) (inv_own w at_ x.q _ (by omega)) (fun c => got_own w at_ x.q _ (by omega) c) ⟨B3, b0, b1, by omega, fun y hy => by cases hy⟩
    (fun y a' W => ∃ b : Nat, w.heap.size + 3 ≤ b ∧ W.heap[b]? = some (.cells #[.int .i64 (x.q.getD y.1 z0).1, .string (x.q.getD y.1 z0).2] 76 (0, 0)) ∧ a' = { tmps := #[.pointer (some ⟨D, 0, none⟩), .int .i64 at_, undef, .pointer (some ⟨w.heap.size, 0, none⟩), .pointer (some ⟨w.heap.size + 1, 0, none⟩), undef, .pointer (some ⟨b, 0, none⟩), .pointer (some ⟨D, 0, none⟩), .pointer (some ⟨D, 0, none⟩), .pointer (some ⟨D, 1, none⟩), .slice A x.q.length c, .func (.func 70) #[] #[.pointer (some ⟨w.heap.size + 1 + 1, 0, none⟩)], .int .i64 (y.1 : Int), .agg #[.int .i64 (x.q.getD y.1 z0).1, .string (x.q.getD y.1 z0).2], undef, undef, undef, undef, undef, undef, undef, undef, undef, undef, undef, undef, undef], defers := [] })
    ?ax ?assign ?body ?done ?stop
  case ax =>
    rintro y a' s W W' row ⟨b, g1, g2, g3⟩ hg hr
    exact ⟨b, g1, (hg.block b (blk_lt g2) (fun e => by obtain ⟨_, o, ho, hc⟩ := hr b e.symm; rw [g2] at ho; cases ho; cases hc)).trans g2, g3⟩
  case assign =>
    intro l pre y W K hI hK
    dsimp only [DskI.encs]
    have e := List.getD_eq_getElem?_getD (l := x.q) (i := y.1) (a := z0)
    have hz0 := hI.2.2.2.1
    gi_wp2
    rw [← e]
    exact hK _ _ (KeepsFrom.of_grownBy (World.grownBy_alloc W _ none) (fun j e => by cases e)) (fun k hk _ => Below.heap_alloc W _ k (by omega)) ((inv_own w at_ x.q w3.heap.size (by omega)).alloc _ hI) ⟨W.heap.size, hz0, blk_new _ _, rfl⟩
  case body =>
    rintro l pre y a' W hlD' hL ⟨hB, i0, i1, i2, i3⟩ ⟨b, g1, g2, rfl⟩ hlt
    have k0 : W.cell? ⟨b, 0, none⟩ = some (.int .i64 (x.q.getD y.1 z0).1) := (blk_cell g2 0).trans rfl
    have k1 : W.cell? ⟨b, 1, none⟩ = some (.string (x.q.getD y.1 z0).2) := (blk_cell g2 1).trans rfl
    have k2 : W.cell? ⟨w.heap.size, 0, none⟩ = some (.int .i64 at_) := (blk_cell i0 0).trans rfl
    have k3 : W.cell? ⟨w.heap.size + 1, 0, none⟩ = some (.string (⟨#[]⟩ : ByteArray)) := (blk_cell i1 0).trans rfl
    have k4 := blk_frozen i1 0
    obtain ⟨p, hp⟩ : ∃ p, p = x.q.getD y.1 z0 := ⟨_, rfl⟩
    have HP := Aside0.mk hp
    rw [← hp] at k0 k1 ⊢
    clear hp
    have HI := Aside0.mk (show Inv w at_ x.q pre W from ⟨hB, i0, i1, i2, i3⟩)
    by_cases hm : p.1 = at_
    · have q0 : (p.1 == at_) = true := beq_iff_eq.2 hm
      have HM := Aside0.mk hm
      clear hm hB i0 i1 i2 i3 g2
      gi_wp2
      exact ⟨KeepsFrom.of_grownBy (row := some (w.heap.size + 1)) ⟨rfl, rfl, rfl, by simp [World.setCell], fun k _ hk => Below.heap_setCell W ⟨w.heap.size + 1, 0, none⟩ _ k (fun e => hk (by rw [e]))⟩ (fun j e => by cases e; omega), rfl, HI.out.1.setCell (p := ⟨w.heap.size + 1, 0, none⟩) (Nat.le_succ _) _, by simpa [World.setCell] using HI.out.2.2.2.1, pre, y, rfl, HI.out.2.2.2.2, by rw [← HP.out]; exact HM.out, by rw [← HP.out]; exact blk_put HI.out.2.2.1 0 _ rfl⟩
    · have q0 : (p.1 == at_) = false := beq_eq_false_iff_ne.2 hm
      have HM := Aside0.mk hm
      clear hm hB i0 i1 i2 i3 g2
      gi_wp2
      exact ⟨KeepsFrom.refl _ _, Same.refl _ _ _, HI.out.1, HI.out.2.1, HI.out.2.2.1, HI.out.2.2.2.1, fun z hz => (List.mem_append.1 hz).elim (HI.out.2.2.2.2 z) (fun h => by rw [List.mem_singleton.1 h, ← HP.out]; exact HM.out)⟩
  case done =>
    rintro Dd ys W hDd hys ⟨hB, i0, i1, i2, i3⟩ hK
    have hdat : dat x at_ = x.s.getD at_.toNat e0 := datK_none x at_ _ (fun k hk => by
      have hm : k ∈ ys.map Subtype.val := by rw [hys]; exact mem_dn hk (by omega)
      obtain ⟨z, hz1, hz2⟩ := List.mem_map.1 hm
      rw [← hz2]; exact i3 z hz1)
    have hDW : IsD W B D vs (.slice A x.q.length c) x := HD.out.below hB
    obtain ⟨gs, cs, hvs, _, _⟩ := World.ownsRow.form hDW.rs (show 0 < x.s.length by omega)
    subst hvs
    obtain ⟨r0, r1⟩ := rowS hDW.rs at_.toNat (by omega)
    rw [← hdat] at r0
    have c0 := hDW.cells.1.1
    have k2 : W.cell? ⟨w.heap.size, 0, none⟩ = some (.int .i64 at_) := (blk_cell i0 0).trans rfl
    have k3 : W.cell? ⟨w.heap.size + 1, 0, none⟩ = some (.string (⟨#[]⟩ : ByteArray)) := (blk_cell i1 0).trans rfl
    have k4 := blk_frozen i1 0
    have q1 : (0 ≤ at_) = True := eq_true h0
    have q2 : (at_ < (x.s.length : Int)) = True := eq_true h1
    have HI1 := Aside0.mk i1
    have HBB := Aside0.mk hB
    have HK := Aside0.mk hK
    clear i0 i1 i2 i3 hB hK hDW hdat
    gi_wp2
    gi_region
    all_goals (try gi_wp2)
    have hK2 : ((W.setCell ⟨w.heap.size + 1, 0, none⟩ (.string (dat x at_))).drew).heap[Dd]? = some (.deferred (some [])) := (Below.heap_setCell W ⟨w.heap.size + 1, 0, none⟩ _ Dd (by show Dd ≠ w.heap.size + 1; omega)).trans HK.out
    have j3 : ((W.setCell ⟨w.heap.size + 1, 0, none⟩ (.string (dat x at_))).drew).heap[w.heap.size + 1]? = some (.cells #[.string (dat x at_)] 9 (0, 0)) := blk_put HI1.out 0 _ rfl
    refine ⟨by simp, .inl ⟨_, _, rfl, run_takeDeferred hK2, ?_⟩⟩
    have j4 : (((W.setCell ⟨w.heap.size + 1, 0, none⟩ (.string (dat x at_))).drew).putObj Dd (.deferred none)).cell? ⟨w.heap.size + 1, 0, none⟩ = some (.string (dat x at_)) := (World.cell?_of_block (World.putObj_heap_other (by show w.heap.size + 1 ≠ Dd; omega))).trans ((blk_cell j3 0).trans rfl)
    exact ⟨_, results_str rfl _ _ (w.heap.size + 1) _ rfl j4 Try.underlying9, rfl, below_def (by have := HBB.out.setCell (p := ⟨w.heap.size + 1, 0, none⟩) (Nat.le_succ _) (.string (dat x at_)); exact ⟨this.os, this.tape, this.output, this.size, this.block⟩) (by omega) hK2⟩
  case stop =>
    rintro Dd cc pre W hDd ⟨t, ht, hpre⟩ ⟨rfl, hB, hz3, p, y, rfl, j1, j2, j3⟩ hK
    have hj : y.1 = x.q.length - 1 - t ∧ p.map Subtype.val = dn x.q.length t := by
      rw [List.map_append, dn_succ] at hpre
      obtain ⟨e1, e2⟩ := List.append_inj' hpre rfl
      exact ⟨by simpa using e2, e1⟩
    have hdat : dat x at_ = (x.q.getD y.1 z0).2 := datK_some x at_ y.1 j2 _ y.2 (fun k h1 h2 => by
      have hm : k ∈ p.map Subtype.val := by rw [hj.2]; exact mem_dn h2 (by omega)
      obtain ⟨z, hz1, hz2⟩ := List.mem_map.1 hm
      rw [← hz2]; exact j1 z hz1)
    rw [← hdat] at j3
    gi_wp2
    refine ⟨by simp, .inl ⟨_, _, rfl, run_takeDeferred hK, ?_⟩⟩
    have j4 : (W.putObj Dd (.deferred none)).cell? ⟨w.heap.size + 1, 0, none⟩ = some (.string (dat x at_)) := (World.cell?_of_block (World.putObj_heap_other (by show w.heap.size + 1 ≠ Dd; omega))).trans ((blk_cell j3 0).trans rfl)
    exact ⟨_, results_str rfl _ _ (w.heap.size + 1) _ rfl j4 Try.underlying9, rfl, below_def hB (by omega) hK⟩
theorem data_c (hD : IsD w B D vs vq x) (hq : x.q.length < 1000000) (at_ : Int) (h0 : 0 ≤ at_) (h1 : at_ < x.s.length) :
    Calls Try.prog 45 #[.pointer (some ⟨D, 0, none⟩), .int .i64 at_] w fun e w' => e = .returned (.string (dat x at_)) ∧ Below w.heap.size w w' :=
  callsIn_wide.1 (data_w hD hq at_ h0 h1)
end
end Go.Proofs.Ytbmhfmkfkdbmdaa.DskJ
end

section
/-
  A disk's Sync.
-/
namespace Go.Proofs.Ytbmhfmkfkdbmdaa.DskT
open Go.RowKit Go.Proofs.YtbmhfmkfkdbmdaaW.PrintWords Go.Proofs.YtbmhfmkfkdbmdaaW.PrintLast Go.Proofs.YtbmhfmkfkdbmdaaW.PrintMore Go.Proofs.Ytbmhfmkfkdbmdaa.DskR Go.Proofs.Ytbmhfmkfkdbmdaa.DskQ
set_option linter.unusedVariables false
attribute [local go_sem] undef
def sy (x : Dk) : Int × Dk :=
  if x.down = true then (2, x) else if x.fuse = 0 then (2, { x with down := true }) else (0, { x with fuse := if x.fuse > 0 then x.fuse - 1 else x.fuse, s := putAll x.s x.q, q := [] })
section
variable {w : World} {B D : Nat} {vs vq : Value} {x : Dk}
set_option maxHeartbeats 4000000 in
set_option maxRecDepth 100000 in
theorem sync_c (hD : IsD w B D vs vq x) (hB : B ≤ w.heap.size) (hq : x.q.length < 1000000) (hg : ∀ p ∈ x.q, 0 ≤ p.1 ∧ p.1 < x.s.length) (hu : x.fuse < 9223372036854775808) :
    Calls Try.prog 15 #[.pointer (some ⟨D, 0, none⟩)] w fun e w' => e = .returned (.int .i64 (sy x).1) ∧ Post w B D vs vq (sy x).2 w' := by
  have hmf : ∀ (fn : Fn) (first cap : Array Value) (w : World), (Instr.makeFunc fn first cap).run Try.prog w = .ok (.func fn first cap) w := fun _ _ _ _ => rfl
  obtain ⟨w1, hw1⟩ : ∃ w1, w1 = w.alloc (.cells #[.pointer (some ⟨D, 0, none⟩)] 25) := ⟨_, rfl⟩
  have hD1 : IsD w1 B D vs vq x := by rw [hw1]; exact hD.alloc _
  have hF1 : Fr w w1 (own D vs vq) := by rw [hw1]; exact (Fr.refl _ _).alloc _
  have hb0 : w1.heap[w.heap.size]? = some (.cells #[.pointer (some ⟨D, 0, none⟩)] 25 (0, 0)) := by rw [hw1]; exact blk_new _ _
  have a0 : w1.cell? ⟨w.heap.size, 0, none⟩ = some (.pointer (some ⟨D, 0, none⟩)) := (blk_cell hb0 0).trans rfl
  obtain ⟨⟨c0, c1, c2, c3, c4⟩, f0, f1, f2, f3, f4⟩ := hD1.cells
  have hsz : w.heap.size ≤ w1.heap.size := hF1.size
  have HD := Aside0.mk hD1
  have HF := Aside0.mk hF1
  have HB0 := Aside0.mk hb0
  have HSZ := Aside0.mk (Nat.le_trans hB hsz)
  have HQ := Aside0.mk hq
  have HG := Aside0.mk hg
  have HU := Aside0.mk hu
  have HX := Aside0.mk hD.lt
  clear hD1 hF1 hb0 hsz hB hq hg hu hD
  unfold sy
  by_cases hd : x.down = true
  · rw [if_pos hd]
    rw [hd] at c4
    clear hd
    subst hw1
    go_enter Try.func15, Try.ntmps15
    go_wp2_with (go_in)
    go_ret
    exact ⟨rfl, _, _, HD.out, HF.out, fun k hk => .inl hk⟩
  rw [if_neg hd]
  rw [Bool.eq_false_iff.2 hd] at c4
  clear hd
  by_cases h2 : x.fuse = 0
  · rw [if_pos h2]
    have q4 : (x.fuse == 0) = true := beq_iff_eq.2 h2
    clear h2
    subst hw1
    go_enter Try.func15, Try.ntmps15
    go_wp2_with (go_in)
    go_ret
    exact ⟨rfl, _, _, HD.out.setDown true, HF.out.set _ _ (.inl (.inl rfl)), fun k hk => .inl hk⟩
  rw [if_neg h2]
  have q4 : (x.fuse == 0) = false := beq_eq_false_iff_ne.2 h2
  by_cases h3 : x.fuse > 0
  · rw [if_pos h3]
    have q5 : decide (x.fuse > 0) = true := decide_eq_true h3
    have q6 : wrap64 (x.fuse - 1) = x.fuse - 1 := by have := HU.out; unfold wrap64; omega
    have HE := Aside0.mk (HD.out.setFuse (x.fuse - 1))
    have HE0 : Aside0 ((w1.setCell ⟨D, 3, none⟩ (.int .i64 (x.fuse - 1))).heap[w.heap.size]? = some (.cells #[.pointer (some ⟨D, 0, none⟩)] 25 (0, 0))) := Aside0.mk (blk_far HB0.out (show w.heap.size ≠ D from Nat.ne_of_gt HX.out) _)
    have HEZ : Aside0 (B ≤ (w1.setCell ⟨D, 3, none⟩ (.int .i64 (x.fuse - 1))).heap.size) := Aside0.mk (by simpa [World.setCell] using HSZ.out)
    have HEF := Aside0.mk (HF.out.set ⟨D, 3, none⟩ (.int .i64 (x.fuse - 1)) (.inl (.inl rfl)))
    clear h2 h3
    subst hw1
    go_enter Try.func15, Try.ntmps15
    go_wp2_with (first | (go_at_call 43; refine (DskS.clo (HE.out) HEZ.out HQ.out HG.out HE0.out).mono ?_; rintro e w2 ⟨rfl, vs2, vq2, p1, p2, p3⟩; have P1 := Aside0.mk p1; have P2 := Aside0.mk p2; have P3 := Aside0.mk p3; clear p1 p2 p3) | go_in)
    go_ret
    exact ⟨rfl, vs2, vq2, P1.out, HEF.out.trans P2.out (fun k hk => .inl hk), fun k hk => (P3.out k hk).elim .inl (fun q => .inr (Nat.le_trans HEF.out.size q))⟩
  · rw [if_neg h3]
    have q5 : decide (x.fuse > 0) = false := decide_eq_false h3
    clear h2 h3
    subst hw1
    go_enter Try.func15, Try.ntmps15
    go_wp2_with (first | (go_at_call 43; refine (DskS.clo (HD.out) HSZ.out HQ.out HG.out HB0.out).mono ?_; rintro e w2 ⟨rfl, vs2, vq2, p1, p2, p3⟩; have P1 := Aside0.mk p1; have P2 := Aside0.mk p2; have P3 := Aside0.mk p3; clear p1 p2 p3) | go_in)
    go_ret
    exact ⟨rfl, vs2, vq2, P1.out, HF.out.trans P2.out (fun k hk => .inl hk), fun k hk => (P3.out k hk).elim .inl (fun q => .inr (Nat.le_trans HF.out.size q))⟩
end
end Go.Proofs.Ytbmhfmkfkdbmdaa.DskT
end

section
/-
  A disk's Read.
-/
namespace Go.Proofs.Ytbmhfmkfkdbmdaa.DskK
open Go.RowKit Go.Proofs.YtbmhfmkfkdbmdaaW.PrintWords Go.Proofs.YtbmhfmkfkdbmdaaW.PrintLast Go.Proofs.YtbmhfmkfkdbmdaaW.PrintMore Go.Proofs.Ytbmhfmkfkdbmdaa.DskR Go.Proofs.Ytbmhfmkfkdbmdaa.DskQ Go.Proofs.Ytbmhfmkfkdbmdaa.DskJ
set_option linter.unusedVariables false
attribute [local go_sem] undef
def rd (x : Dk) (at_ : Int) : ByteArray × Int :=
  if x.down = true then ((⟨#[]⟩ : ByteArray), 2) else if ¬ (0 ≤ at_ ∧ at_ < x.s.length) then ((⟨#[]⟩ : ByteArray), 4) else (dat x at_, 0)
section
variable {w : World} {B D : Nat} {vs vq : Value} {x : Dk}
set_option maxHeartbeats 4000000 in
set_option maxRecDepth 100000 in
theorem read_c (hD : IsD w B D vs vq x) (hq : x.q.length < 1000000) (at_ : Int) :
    Calls Try.prog 17 #[.pointer (some ⟨D, 0, none⟩), .int .i64 at_] w fun e w' => e = .returned (.tuple #[.string (rd x at_).1, .int .i64 (rd x at_).2]) ∧ Below w.heap.size w w' := by
  obtain ⟨g, c, rfl⟩ := DskV.form hD.rs
  obtain ⟨⟨c0, c1, c2, c3, c4⟩, f0, f1, f2, f3, f4⟩ := hD.cells
  have HD := Aside0.mk hD
  have HQ := Aside0.mk hq
  clear hD hq
  unfold rd
  by_cases hd : x.down = true
  · rw [if_pos hd]
    rw [hd] at c4
    clear hd
    go_enter Try.func17, Try.ntmps17
    go_wp2_with (go_in)
    go_ret2
    exact ⟨rfl, Below.refl _ _⟩
  rw [if_neg hd]
  rw [Bool.eq_false_iff.2 hd] at c4
  clear hd
  by_cases h0 : 0 ≤ at_
  rotate_left
  · rw [if_pos (fun h => h0 h.1)]
    have q2 : decide (at_ ≥ 0) = false := decide_eq_false h0
    clear h0
    go_enter Try.func17, Try.ntmps17
    go_wp2_with (go_in)
    go_ret2
    exact ⟨rfl, Below.refl _ _⟩
  have q2 : decide (at_ ≥ 0) = true := decide_eq_true h0
  by_cases h1 : at_ < (x.s.length : Int)
  rotate_left
  · rw [if_pos (fun h => h1 h.2)]
    have q3 : decide (at_ < (x.s.length : Int)) = false := decide_eq_false h1
    clear h0 h1
    go_enter Try.func17, Try.ntmps17
    go_wp2_with (go_in)
    go_ret2
    exact ⟨rfl, Below.refl _ _⟩
  rw [if_neg (fun h => h ⟨h0, h1⟩)]
  have q3 : decide (at_ < (x.s.length : Int)) = true := decide_eq_true h1
  have H0 := Aside0.mk h0
  have H1 := Aside0.mk h1
  clear h0 h1
  go_enter Try.func17, Try.ntmps17
  go_wp2_with (first | (go_at_call 45; refine (data_c HD.out HQ.out at_ H0.out H1.out).mono ?_; rintro e w2 ⟨rfl, hb⟩; have P1 := Aside0.mk hb; clear hb) | go_in)
  go_ret2
  exact ⟨rfl, P1.out⟩
end
end Go.Proofs.Ytbmhfmkfkdbmdaa.DskK
end

section
/-
  Fill in plain words; what waits where nothing does.
-/
namespace Go.Proofs.Ytbmhfmkfkdbmdaa.DskP
open Go.RowKit Go.Proofs.YtbmhfmkfkdbmdaaW.PrintWords Go.Proofs.YtbmhfmkfkdbmdaaW.PrintLast Go.Proofs.YtbmhfmkfkdbmdaaW.PrintMore Go.Proofs.Ytbmhfmkfkdbmdaa.DskR Go.Proofs.Ytbmhfmkfkdbmdaa.DskQ Go.Proofs.Ytbmhfmkfkdbmdaa.PDsk
set_option linter.unusedVariables false
def fillB (v : Int) : ByteArray := strOfNums (List.replicate 256 v)
theorem fill_size (v : Int) : (fillB v).size = 256 := (strOfNums_size _).trans List.length_replicate
theorem fill_loop (n : Nat) (hn : n < 1000) (v : Int) : ∀ (d j k : Nat), j + d = n → d < k → umbellaw06_Fill.l0 k v (List.replicate j v ++ List.replicate d 0) (j : Int) = some (strOfNums (List.replicate n v))
  | 0, j, k, hj, hk => by
    obtain ⟨k1, rfl⟩ : ∃ k1, k = k1 + 1 := ⟨k - 1, by omega⟩
    obtain rfl : j = n := by omega
    rw [umbellaw06_Fill.l0, if_neg (by rw [List.length_append, List.length_replicate, List.length_replicate]; omega), List.replicate_zero, List.append_nil]
  | d + 1, j, k, hj, hk => by
    obtain ⟨k1, rfl⟩ : ∃ k1, k = k1 + 1 := ⟨k - 1, by omega⟩
    rw [umbellaw06_Fill.l0, if_pos (by rw [List.length_append, List.length_replicate, List.length_replicate]; omega), if_pos (by omega), w_succ j (by omega), Int.toNat_natCast]
    have e : (List.replicate j v ++ List.replicate (d + 1) (0 : Int)).set j v = List.replicate (j + 1) v ++ List.replicate d 0 := by
      rw [List.set_append_right _ _ (by simp), List.length_replicate, Nat.sub_self, List.replicate_succ, List.set_cons_zero, List.replicate_succ' (n := j), List.append_assoc]; rfl
    rw [e]
    exact fill_loop n hn v d (j + 1) k1 (by omega) (by omega)
theorem fill_eq (k : Nat) (v : Int) (r : Option ByteArray) (N : Nat) (hN : N = 256) (h : umbellaw06_Fill.l0 k v (List.replicate N 0) 0 = r) : umbellaw06_Fill.f k v = r := by
  rw [hN] at h
  exact (if_pos (by decide)).trans h
theorem fillB_eq (v : Int) (N : Nat) (hN : N = 256) : fillB v = strOfNums (List.replicate N v) := by rw [hN]; rfl
theorem fill_f (v : Int) : umbellaw06_Fill.f 300 v = some (fillB v) := by
  obtain ⟨N, hN⟩ : ∃ N : Nat, N = 256 := ⟨_, rfl⟩
  refine fill_eq 300 v _ N hN ?_
  rw [fillB_eq v N hN]
  exact fill_loop N (by omega) v N 0 300 (Nat.zero_add N) (by omega)
theorem fill_c (v : Int) (w : World) : Calls Try.prog 14 #[.int .u8 v] w fun e w' => e = .returned (.string (fillB v)) ∧ Below w.heap.size w w' := umbellaw06_Fill.calls 300 v _ w (fill_f v)
section
variable {w : World} {B D : Nat} {vs : Value} {x : Dk}
set_option maxRecDepth 100000 in
theorem clone_nil (w : World) : Calls Try.prog 46 #[.slice none 0 0] w fun e w' => e = .returned (.slice none 0 0) ∧ Below w.heap.size w w' := by
  go_enter Try.func46, Try.ntmps46
  go_wp2_with fail
  rw [show Sem.run Try.prog (binOp BinOp.eql 41 (Value.slice none 0 0) (Value.slice none 0 0)) w = .ok (.bool true) w from rfl]
  simp only [Result.andThen_ok]
  go_wp2_with fail
  go_ret
  exact ⟨rfl, Below.refl _ _⟩
set_option maxRecDepth 100000 in
theorem waiting_none (h : IsD w B D vs (.slice none 0 0) x) : Calls Try.prog 19 #[.pointer (some ⟨D, 0, none⟩)] w fun e w' => e = .returned (.slice none 0 0) ∧ Below w.heap.size w w' := by
  obtain ⟨⟨c0, c1, c2, c3, c4⟩, f0, f1, f2, f3, f4⟩ := h.cells
  go_enter Try.func19, Try.ntmps19
  go_wp2_with (go_at_call 46; refine (clone_nil _).mono ?_; rintro e w1 ⟨rfl, hb⟩; have HB := Aside0.mk hb; clear hb)
  go_ret
  exact ⟨rfl, HB.out⟩
end
end Go.Proofs.Ytbmhfmkfkdbmdaa.DskP
end

section
/-
  The disk's methods, one line each: a disk that stands above a world.
-/
namespace Go.Proofs.Ytbmhfmkfkdbmdaa.DskX
open Go.RowKit Go.Proofs.YtbmhfmkfkdbmdaaW.PrintWords Go.Proofs.YtbmhfmkfkdbmdaaW.PrintLast Go.Proofs.YtbmhfmkfkdbmdaaW.PrintMore Go.Proofs.Ytbmhfmkfkdbmdaa.DskR Go.Proofs.Ytbmhfmkfkdbmdaa.DskQ
set_option linter.unusedVariables false
/-- A disk that was made above W, and nothing below turned. -/
def J (W : World) (D : Nat) (x : Dk) (w : World) : Prop := (∃ vs vq, IsD w W.heap.size D vs vq x) ∧ Below W.heap.size W w
/-- .. where nothing waits in no row at all. -/
def JN (W : World) (D : Nat) (x : Dk) (w : World) : Prop := (∃ vs, IsD w W.heap.size D vs (.slice none 0 0) x) ∧ Below W.heap.size W w
section
variable {W w : World} {D : Nat} {x x' : Dk}
theorem JN.toJ (h : JN W D x w) : J W D x w := ⟨let ⟨vs, hd⟩ := h.1; ⟨vs, _, hd⟩, h.2⟩
theorem J.below (h : J W D x w) {w' : World} (hb : Below w.heap.size w w') : J W D x w' :=
  ⟨let ⟨vs, vq, hd⟩ := h.1; ⟨vs, vq, hd.below hb⟩, below_step h.2 hb⟩
theorem JN.below (h : JN W D x w) {w' : World} (hb : Below w.heap.size w w') : JN W D x w' :=
  ⟨let ⟨vs, hd⟩ := h.1; ⟨vs, hd.below hb⟩, below_step h.2 hb⟩
theorem J.of_post {vs vq : Value} (hd : IsD w W.heap.size D vs vq x) (hb : Below W.heap.size W w) {w' : World} (h : Post w W.heap.size D vs vq x' w') : J W D x' w' := by
  obtain ⟨vs', vq', h1, h2, _⟩ := h
  exact ⟨⟨vs', vq', h1⟩, hb.trans (h2.below hb.size (fun k hk => hd.own_ge hk))⟩
theorem new3 (W : World) : Calls Try.prog 11 #[.int .i64 3] W fun e w' => ∃ D, e = .returned (.tuple #[.pointer (some ⟨D, 0, none⟩), .bool true]) ∧ J W D ⟨[], [], 3, -1, false⟩ w' := by
  refine (DskF.new_c 3 W).mono ?_
  rintro e w' ⟨hb, h⟩
  rw [if_pos (by decide)] at h
  obtain ⟨D, vs, rfl, hd⟩ := h
  exact ⟨D, rfl, ⟨vs, _, hd⟩, hb⟩
theorem j_write (h : J W D x w) (hq : x.q.length < 1000000) (hu : x.fuse < 9223372036854775808) (at_ : Int) (s : ByteArray) {r : Int} (e : DskV.wr x at_ s = (r, x')) :
    Calls Try.prog 13 #[.pointer (some ⟨D, 0, none⟩), .int .i64 at_, .string s] w fun e w' => e = .returned (.int .i64 r) ∧ J W D x' w' := by
  obtain ⟨⟨vs, vq, hd⟩, hb⟩ := h
  refine (DskV.write_c hd hb.size hq hu at_ s).mono ?_
  rintro e' w' ⟨rfl, hp⟩
  rw [e] at hp ⊢
  exact ⟨rfl, J.of_post hd hb hp⟩
theorem j_sync (h : J W D x w) (hq : x.q.length < 1000000) (hg : ∀ p ∈ x.q, 0 ≤ p.1 ∧ p.1 < x.s.length) (hu : x.fuse < 9223372036854775808) {r : Int} (e : DskT.sy x = (r, x')) :
    Calls Try.prog 15 #[.pointer (some ⟨D, 0, none⟩)] w fun e w' => e = .returned (.int .i64 r) ∧ J W D x' w' := by
  obtain ⟨⟨vs, vq, hd⟩, hb⟩ := h
  refine (DskT.sync_c hd hb.size hq hg hu).mono ?_
  rintro e' w' ⟨rfl, hp⟩
  rw [e] at hp ⊢
  exact ⟨rfl, J.of_post hd hb hp⟩
theorem j_grow (h : J W D x w) (hx : x.s.length < 1000000) (hc : x.cap < 1000000) (hu : x.fuse < 9223372036854775808) (n : Int) {r : Int} (e : DskH.gr x n = (r, x')) :
    Calls Try.prog 12 #[.pointer (some ⟨D, 0, none⟩), .int .i64 n] w fun e w' => e = .returned (.int .i64 r) ∧ J W D x' w' := by
  obtain ⟨⟨vs, vq, hd⟩, hb⟩ := h
  refine (DskH.grow_c hd hb.size hx hc hu n).mono ?_
  rintro e' w' ⟨rfl, hp⟩
  rw [e] at hp ⊢
  exact ⟨rfl, J.of_post hd hb hp⟩
theorem j_fuse (h : J W D x w) (n : Int) (e : ({ x with fuse := if n < -1 then -1 else n } : Dk) = x') :
    Calls Try.prog 18 #[.pointer (some ⟨D, 0, none⟩), .int .i64 n] w fun e w' => e = .returned (.tuple #[]) ∧ J W D x' w' := by
  obtain ⟨⟨vs, vq, hd⟩, hb⟩ := h
  refine (DskM.fuse_c hd n).mono ?_
  rintro e' w' ⟨rfl, hp⟩
  rw [e] at hp
  exact ⟨rfl, J.of_post hd hb hp⟩
theorem j_read (h : J W D x w) (hq : x.q.length < 1000000) (at_ : Int) {s : ByteArray} {r : Int} (e : DskK.rd x at_ = (s, r)) :
    Calls Try.prog 17 #[.pointer (some ⟨D, 0, none⟩), .int .i64 at_] w fun e w' => e = .returned (.tuple #[.string s, .int .i64 r]) ∧ J W D x w' := by
  have hJ := h
  obtain ⟨⟨vs, vq, hd⟩, hb⟩ := h
  refine (DskK.read_c hd hq at_).mono ?_
  rintro e' w' ⟨rfl, hp⟩
  rw [e]
  exact ⟨rfl, hJ.below hp⟩
theorem jn_read (h : JN W D x w) (hq : x.q.length < 1000000) (at_ : Int) {s : ByteArray} {r : Int} (e : DskK.rd x at_ = (s, r)) :
    Calls Try.prog 17 #[.pointer (some ⟨D, 0, none⟩), .int .i64 at_] w fun e w' => e = .returned (.tuple #[.string s, .int .i64 r]) ∧ JN W D x w' := by
  have hJ := h
  obtain ⟨⟨vs, hd⟩, hb⟩ := h
  refine (DskK.read_c hd hq at_).mono ?_
  rintro e' w' ⟨rfl, hp⟩
  rw [e]
  exact ⟨rfl, hJ.below hp⟩
/-- The choice lies apart: below W, or not among the disk's blocks. -/
theorem j_crash (h : J W D x w) (hq : x.q.length < 1000000) (hg : ∀ p ∈ x.q, 0 ≤ p.1 ∧ p.1 < x.s.length) (hs6 : ∀ p ∈ x.s, p.size = 256) (hq6 : ∀ p ∈ x.q, p.2.size = 256) (CA : Option Addr) (cc : Nat) (l : List Int) (hl : ∀ c ∈ l, 0 ≤ c ∧ c < 256) (hr : Kd.C (Kd.int .u8) w CA l.length l)
    (hsep : ∀ ad, CA = some ad → ad.block < W.heap.size ∨ ∃ cs fz, w.heap[ad.block]? = some (.cells cs 5 fz)) (e : DskC.crash x l = x') :
    Calls Try.prog 16 #[.pointer (some ⟨D, 0, none⟩), .slice CA l.length cc] w fun e w' => e = .returned (.tuple #[]) ∧ JN W D x' w' := by
  obtain ⟨⟨vs, vq, hd⟩, hb⟩ := h
  refine (DskC.crash_c hd hq hg hs6 hq6 CA cc l hl hr (fun _ ad ha => ?_)).mono ?_
  · rcases hsep ad ha with h1 | ⟨cs, fz, h1⟩
    · exact ⟨fun hk => Nat.not_lt.2 (hd.own_ge hk) h1, Nat.lt_of_lt_of_le h1 hb.size⟩
    · refine ⟨fun hk => ?_, blk_lt h1⟩
      rcases hk with hk | hk | hk
      · rw [hk, hd.blk] at h1; simp at h1
      · exact DskW.ne_own hd.rs h1 (by decide) hk.symm
      · exact DskW.ne_own hd.rq h1 (by decide) hk.symm
  · rintro e' w' ⟨rfl, vs', h1, h2, _⟩
    rw [e] at h1
    exact ⟨rfl, ⟨vs', h1⟩, hb.trans (h2.below hb.size (fun k hk => hd.own_ge hk))⟩
theorem p_length (h : JN W D x w) : Calls Try.prog 26 #[.pointer (some ⟨D, 0, none⟩)] w fun e w' => e = .returned (.int .i64 (x.s.length : Int)) ∧ Below w.heap.size w w' := by
  obtain ⟨⟨vs, hd⟩, hb⟩ := h
  obtain ⟨A, c, e⟩ := DskV.form hd.rs
  exact DskM.length_c hd e
theorem p_limit (h : JN W D x w) : Calls Try.prog 25 #[.pointer (some ⟨D, 0, none⟩)] w fun e w' => e = .returned (.int .i64 x.cap) ∧ Below w.heap.size w w' := by
  obtain ⟨⟨vs, hd⟩, hb⟩ := h
  exact DskM.limit_c hd
theorem p_waiting (h : JN W D x w) : Calls Try.prog 19 #[.pointer (some ⟨D, 0, none⟩)] w fun e w' => e = .returned (.slice none 0 0) ∧ Below w.heap.size w w' := by
  obtain ⟨⟨vs, hd⟩, hb⟩ := h
  exact DskP.waiting_none hd
end
end Go.Proofs.Ytbmhfmkfkdbmdaa.DskX
end

section
/-
  slices.Clone of what waits; Waiting.
-/
namespace Go.Proofs.Ytbmhfmkfkdbmdaa.DskZ
open Go.RowKit Go.Proofs.YtbmhfmkfkdbmdaaW.PrintWords Go.Proofs.YtbmhfmkfkdbmdaaW.PrintLast Go.Proofs.YtbmhfmkfkdbmdaaW.PrintMore Go.Proofs.Ytbmhfmkfkdbmdaa.DskR
set_option linter.unusedVariables false
theorem run_equalIn_slice_nil {P : Program} (w : World) (d : Nat) (t e : TypeId) (a : Option Addr) (l c : Nat) (h : P.underlying t = some (.slice e)) : (Op.equalIn (d + 1) t (.slice a l c) (.slice none 0 0)).run P w = .ok a.isNone w := by
  cases a <;> simp [Op.equalIn, run_underlying h]
theorem run_equal_slice_nil {P : Program} (w : World) (t e : TypeId) (a : Option Addr) (l c : Nat) (h : P.underlying t = some (.slice e)) : (Op.equal t (.slice a l c) (.slice none 0 0)).run P w = .ok a.isNone w := run_equalIn_slice_nil w 9999 t e a l c h
theorem run_eql_slice_nil {P : Program} (w : World) (t e : TypeId) (a : Option Addr) (l c : Nat) (h : P.underlying t = some (.slice e)) : (binOp .eql t (.slice a l c) (.slice none 0 0)).run P w = .ok (.bool a.isNone) w := by
  simp [binOp, run_equal_slice_nil w t e a l c h]
theorem qC_cell (l : List (Int × ByteArray)) : ∀ u ∈ qC l, u.oneCell' = true := by
  intro u hu
  unfold qC at hu
  rw [List.mem_flatMap] at hu
  obtain ⟨p, _, hp⟩ := hu
  simp only [List.mem_cons, List.not_mem_nil, or_false] at hp
  rcases hp with rfl | rfl <;> rfl
section
variable {w : World} {B D : Nat} {vs vq : Value} {x : Dk}
set_option maxRecDepth 100000 in
set_option maxHeartbeats 2000000 in
theorem clone_some {g n c : Nat} {l : List (Int × ByteArray)} (hr : w.ownsRow B 76 2 (.slice (some ⟨g, 0, none⟩) n c) n (qC l)) (hB : B ≤ w.heap.size) (hn : n < 1000000) (hl : l.length = n) :
    Calls Try.prog 46 #[.slice (some ⟨g, 0, none⟩) n c] w fun e w' => ∃ v, e = .returned v ∧ w'.ownsRow w.heap.size 76 2 v n (qC l) ∧ Below w.heap.size w w' := by
  obtain ⟨i0, hi, hi0, hi1, hi2⟩ := info_parts (show (Try.prog.info? 76).map (fun i => (i.zero, i.size, i.bytes)) = some (some (.agg #[.int .i64 0, .string (⟨#[]⟩ : ByteArray)]), 2, 24) by kernel_rfl)
  have hq := run_eql_slice_nil (P := Try.prog) w 41 76 (some ⟨g, 0, none⟩) n c Try.underlying41
  simp only [Option.isNone_some] at hq
  have hc := hr.cells (g := g) rfl
  have hgl : g < w.heap.size := (hr.lt g rfl).2
  have HR := Aside0.mk hr
  have HC := Aside0.mk hc
  clear hr hc
  go_enter Try.func46, Try.ntmps46
  have H1 := Aside0.mk (show ((w.alloc (.cells #[] 76)).ownsRow w.heap.size 76 2 (.slice (some ⟨w.heap.size, 0, none⟩) 0 0) 0 []) from ⟨rfl, .inr ⟨_, 0, #[], rfl, Nat.le_refl _, blk_new _ _, by omega, by decide, rfl, rfl⟩⟩)
  have H2 := Aside0.mk (show ∀ j u, (qC l)[j]? = some u → (w.alloc (.cells #[] 76)).cell? ((⟨g, 0, none⟩ : Addr).add j) = some u from fun j u hu => ((below_alloc (Below.refl w.heap.size w) _).cell (p := (⟨g, 0, none⟩ : Addr).add j) (by unfold Addr.add; split <;> exact hgl)).trans (HC.out j u hu))
  have H3 := Aside0.mk (show w.heap.size ≤ (w.alloc (.cells #[] 76)).heap.size by simp)
  have H4 := Aside0.mk (qC_cell l)
  have H5 := Aside0.mk (below_alloc (Below.refl w.heap.size w) (.cells #[] 76))
  go_wp2_with ((with_reducible refine gate_builtin (b := .append) (xs := #[.tmp 5, .tmp 6]) rfl ?_); at_builtin; refine wpList_append_own _ rfl (.tmp 5) (.tmp 6) 41 rfl w.heap.size 76 i0 _ 2 24 Try.underlying41 hi hi0 hi1 hi2 rfl (by decide) _ 0 [] rfl H1.out ⟨g, 0, none⟩ n c (qC l) rfl (by rw [qC_length, hl]) H2.out H4.out (by unfold maxLen; omega) (by omega) H3.out ?_; intro v w2 ho hg hz; have HO := Aside0.mk ho; have HG := Aside0.mk hg; clear ho hg hz)
  go_ret
  have ho := HO.out
  rw [Nat.zero_add, List.nil_append] at ho
  exact ⟨v, rfl, ho, H5.out.trans ⟨HG.out.os, HG.out.tape, HG.out.output, HG.out.size, fun k hk => HG.out.block k (Nat.lt_of_lt_of_le hk H3.out) (fun e => absurd hk (by cases e; exact Nat.lt_irrefl _))⟩⟩
set_option maxRecDepth 100000 in
theorem clone_nil (w : World) : Calls Try.prog 46 #[.slice none 0 0] w fun e w' => e = .returned (.slice none 0 0) ∧ Below w.heap.size w w' := by
  have hq := run_eql_slice_nil (P := Try.prog) w 41 76 none 0 0 Try.underlying41
  simp only [Option.isNone_none] at hq
  go_enter Try.func46, Try.ntmps46
  go_wp2_with fail
  go_ret
  exact ⟨rfl, Below.refl _ _⟩
theorem clone_c {l : List (Int × ByteArray)} {v : Value} (hr : w.ownsRow B 76 2 v l.length (qC l)) (hB : B ≤ w.heap.size) (hn : l.length < 1000000) :
    Calls Try.prog 46 #[v] w fun e w' => ∃ v, e = .returned v ∧ w'.ownsRow w.heap.size 76 2 v l.length (qC l) ∧ Below w.heap.size w w' := by
  rcases hr.2 with ⟨rfl, h0⟩ | ⟨g, cap, cur, rfl, _⟩
  · refine (clone_nil w).mono ?_
    rintro e w' ⟨rfl, hb⟩
    rw [List.eq_nil_of_length_eq_zero h0]
    exact ⟨_, rfl, World.ownsRow_nil _ _ _ _, hb⟩
  · exact clone_some hr hB hn rfl
end
end Go.Proofs.Ytbmhfmkfkdbmdaa.DskZ
end

section
/-
  What a disk shows: plain words; calls that leave blocks of other kinds as they were.
-/
namespace Go.Proofs.Ytbmhfmkfkdbmdaa.DskE
open Go.RowKit Go.Proofs.YtbmhfmkfkdbmdaaW.PrintWords Go.Proofs.YtbmhfmkfkdbmdaaW.PrintLast Go.Proofs.YtbmhfmkfkdbmdaaW.PrintMore Go.Proofs.Ytbmhfmkfkdbmdaa.DskR Go.Proofs.Ytbmhfmkfkdbmdaa.DskQ Go.Proofs.Ytbmhfmkfkdbmdaa.DskX
set_option linter.unusedVariables false
/-- All pages as they would be were all stable. -/
def cur (x : Dk) : List ByteArray := DskQ.putAll x.s x.q
theorem put_length : ∀ (q : List (Int × ByteArray)) (s : List ByteArray), (DskQ.putAll s q).length = s.length
  | [], _ => rfl
  | p :: q, s => by rw [DskQ.putAll, put_length q, List.length_set]
theorem put_snoc (p : Int × ByteArray) : ∀ (q : List (Int × ByteArray)) (s : List ByteArray), DskQ.putAll s (q ++ [p]) = (DskQ.putAll s q).set p.1.toNat p.2
  | [], _ => rfl
  | r :: q, s => by rw [List.cons_append, DskQ.putAll, put_snoc p q, DskQ.putAll]
theorem datK_congr {x y : Dk} (a : Int) (hs : x.s = y.s) : ∀ n, (∀ k, k < n → x.q.getD k z0 = y.q.getD k z0) → DskJ.datK x a n = DskJ.datK y a n
  | 0, _ => by rw [DskJ.datK, DskJ.datK, hs]
  | n + 1, h => by rw [DskJ.datK, DskJ.datK, h n (Nat.lt_succ_self n), datK_congr a hs n (fun k hk => h k (Nat.lt_succ_of_lt hk))]
theorem dat_snoc (x : Dk) (q : List (Int × ByteArray)) (p : Int × ByteArray) (hq : x.q = q ++ [p]) (a : Int) : DskJ.dat x a = if p.1 = a then p.2 else DskJ.dat { x with q := q } a := by
  have e : x.q.getD q.length z0 = p := by rw [hq, List.getD_eq_getElem?_getD, List.getElem?_append_right (Nat.le_refl _)]; simp
  show DskJ.datK x a x.q.length = _
  rw [show x.q.length = q.length + 1 by rw [hq]; simp, DskJ.datK, e]
  split
  · rfl
  exact datK_congr (x := x) (y := { x with q := q }) a rfl q.length (fun k hk => by rw [hq, List.getD_eq_getElem?_getD, List.getD_eq_getElem?_getD, List.getElem?_append_left hk])
theorem dat_cur (s : List ByteArray) (cap fuse : Int) (down : Bool) (a : Int) (h0 : 0 ≤ a) (h1 : a < s.length) : ∀ (n : Nat) (q : List (Int × ByteArray)), q.length = n → (∀ p ∈ q, 0 ≤ p.1) → DskJ.dat ⟨s, q, cap, fuse, down⟩ a = (DskQ.putAll s q).getD a.toNat e0
  | 0, q, hn, _ => by
    obtain rfl := List.eq_nil_of_length_eq_zero hn
    rfl
  | n + 1, q, hn, hp => by
    rcases List.eq_nil_or_concat q with rfl | ⟨q', p, rfl⟩
    · cases hn
    rw [List.concat_eq_append] at hn hp ⊢
    rw [dat_snoc _ q' p rfl a, put_snoc]
    have ih := dat_cur s cap fuse down a h0 h1 n q' (by simpa using hn) (fun r hr => hp r (List.mem_append_left _ hr))
    have p0 := hp p (by simp)
    rw [List.getD_eq_getElem?_getD]
    by_cases e : p.1 = a
    · rw [if_pos e, e, List.getElem?_set_self (by rw [put_length]; omega)]; rfl
    · rw [if_neg e, List.getElem?_set_ne (by omega), ← List.getD_eq_getElem?_getD]
      exact ih
theorem rd_cur (x : Dk) (hd : x.down = false) (hq : ∀ p ∈ x.q, 0 ≤ p.1) (a : Int) (h0 : 0 ≤ a) (h1 : a < x.s.length) : DskK.rd x a = ((cur x).getD a.toNat e0, 0) := by
  unfold DskK.rd
  rw [if_neg (by rw [hd]; decide), if_neg (by simp [h0, h1])]
  exact congrArg (·, 0) (dat_cur x.s x.cap x.fuse x.down a h0 h1 _ x.q rfl hq)
/-- Blocks of other kinds are as they were. -/
def Kp (w w' : World) : Prop := ∀ (g : Nat) (cs : Array Value) (t : TypeId) (fz : Nat × Nat), t ≠ 71 → t ≠ 9 → t ≠ 76 → w.heap[g]? = some (.cells cs t fz) → w'.heap[g]? = some (.cells cs t fz)
theorem Kp.of_below {w w' : World} (h : Below w.heap.size w w') : Kp w w' := fun g cs t fz _ _ _ hg => (h.block g (blk_lt hg)).trans hg
theorem Kp.refl (w : World) : Kp w w := fun _ _ _ _ _ _ _ h => h
theorem Kp.trans {a b c : World} (h : Kp a b) (k : Kp b c) : Kp a c := fun g cs t fz h1 h2 h3 hg => k g cs t fz h1 h2 h3 (h g cs t fz h1 h2 h3 hg)
section
variable {W w : World} {B D : Nat} {vs vq : Value} {x x' : Dk}
theorem new_c (n : Int) (h0 : 1 ≤ n) (h1 : n ≤ 200) (W : World) : Calls Try.prog 11 #[.int .i64 n] W fun e w' => ∃ D, e = .returned (.tuple #[.pointer (some ⟨D, 0, none⟩), .bool true]) ∧ J W D ⟨[], [], n, -1, false⟩ w' := by
  refine (DskF.new_c n W).mono ?_
  rintro e w' ⟨hb, h⟩
  rw [if_pos (by simp [DskF.okD]; omega)] at h
  obtain ⟨D, vs, rfl, hd⟩ := h
  exact ⟨D, rfl, ⟨vs, _, hd⟩, hb⟩
end
end Go.Proofs.Ytbmhfmkfkdbmdaa.DskE
end

section
/-
  Texts and lists of numbers.
-/
namespace Go.Proofs.Ytbmhfmkfkdbmdaa.Str
open Go.RowKit Go.Proofs.YtbmhfmkfkdbmdaaW.PrintWords
set_option linter.unusedVariables false
theorem wr {x : Int} (h0 : 0 ≤ x) (h1 : x < 4611686018427387904) : wrap64 x = x := by unfold wrap64; omega
def R (l : List Int) : Prop := ∀ x ∈ l, 0 ≤ x ∧ x < 256
theorem str_bytes (s : ByteArray) : strOfNums (bytesOf s) = s := by
  have h : (strOfNums (bytesOf s)).data.toList = s.data.toList := by
    rw [strOfNums_data, bytesOf, List.map_map]
    conv => rhs; rw [← List.map_id s.data.toList]
    congr 1
    funext b
    simp
  have h2 : (strOfNums (bytesOf s)).data = s.data := by rw [← Array.toList_inj]; exact h
  cases s; cases hh : strOfNums (bytesOf _); rw [hh] at h2; simp at h2; rw [h2]
theorem bytes_inj {s t : ByteArray} (h : bytesOf s = bytesOf t) : s = t := by rw [← str_bytes s, ← str_bytes t, h]
theorem toList_eq (s : ByteArray) : s.toList = s.data.toList := ByteArray.toList_eq s
theorem toList_inj (s t : ByteArray) : s.toList = t.toList ↔ s = t := by
  constructor
  · intro h
    rw [toList_eq, toList_eq] at h
    exact bytes_inj (by unfold bytesOf; rw [h])
  · rintro rfl; rfl
end Go.Proofs.Ytbmhfmkfkdbmdaa.Str
end

section
/-
  Lists of texts alike; a row of one's own as a list of texts.
-/
namespace Go.Proofs.Ytbmhfmkfkdbmdaa.DskTx
open Go.RowKit Go.Proofs.YtbmhfmkfkdbmdaaW.PrintWords Go.Proofs.YtbmhfmkfkdbmdaaW.PrintLast Go.Proofs.YtbmhfmkfkdbmdaaW.PrintMore Go.Proofs.Ytbmhfmkfkdbmdaa.DskR Go.Proofs.Ytbmhfmkfkdbmdaa.DskQ Go.Proofs.Ytbmhfmkfkdbmdaa.DskE Go.Proofs.Ytbmhfmkfkdbmdaa.PDsk
set_option linter.unusedVariables false
theorem rd_at (l : List ByteArray) (j : Nat) (hj : j < l.length) : rdOf ByteArray.empty l (j : Int) = l[j] := by
  unfold rdOf
  rw [Int.toNat_natCast, List.getD_eq_getElem?_getD, List.getElem?_eq_getElem hj]; rfl
theorem texts_loop (a b : List ByteArray) (h : a.length = b.length) (hl : a.length ≤ 100000) : ∀ (d j k : Nat), j + d = a.length → d < k → umbelkeep_Texts.l0 k a b (j : Int) = some (decide (a.drop j = b.drop j))
  | 0, j, k, hj, hk => by
    obtain ⟨k1, rfl⟩ : ∃ k1, k = k1 + 1 := ⟨k - 1, by omega⟩
    rw [umbelkeep_Texts.l0, if_neg (by omega), List.drop_eq_nil_of_le (by omega), List.drop_eq_nil_of_le (by omega), decide_eq_true rfl]
  | d + 1, j, k, hj, hk => by
    obtain ⟨k1, rfl⟩ : ∃ k1, k = k1 + 1 := ⟨k - 1, by omega⟩
    have ha : j < a.length := by omega
    have hb : j < b.length := by omega
    have w2 : wrap64 ((j : Int) + 1) = ((j + 1 : Nat) : Int) := by rw [Str.wr (by omega) (by omega)]; omega
    rw [umbelkeep_Texts.l0, if_pos (by omega), if_pos (by omega), if_pos (by omega), rd_at a j ha, rd_at b j hb, List.drop_eq_getElem_cons ha, List.drop_eq_getElem_cons hb]
    by_cases he : a[j].toList = b[j].toList
    · rw [if_pos he, w2, texts_loop a b h hl d (j + 1) k1 (by omega) (by omega)]
      congr 1
      rw [decide_eq_decide, (Str.toList_inj _ _).1 he]
      exact ⟨fun e => by rw [e], fun e => (List.cons.inj e).2⟩
    · rw [if_neg he, decide_eq_false]
      intro e
      exact he (by rw [(List.cons.inj e).1])
theorem texts_f (a b : List ByteArray) (hl : a.length ≤ 100000) (k : Nat) (hk : a.length < k) : umbelkeep_Texts.f k a b = some (decide (a = b)) := by
  unfold umbelkeep_Texts.f
  by_cases h : (a.length : Int) = (b.length : Int)
  · rw [if_pos h]
    have := texts_loop a b (by omega) hl a.length 0 k (by omega) hk
    rw [show ((0 : Nat) : Int) = 0 from rfl, List.drop_zero, List.drop_zero] at this
    exact this
  · rw [if_neg h, decide_eq_false]
    intro e; exact h (by rw [e])
theorem long_loop (l : List ByteArray) : ∀ (k acc i : Nat), i ≤ acc → acc ≤ 120001 → 60002 - acc < k → ∃ b, umbelkeep_Long.l0 k l 60000 (acc : Int) (i : Int) = some b ∧ (b = false → l.length ≤ 60000)
  | 0, acc, i, h1, h2, h3 => by omega
  | k + 1, acc, i, h1, h2, h3 => by
    rw [umbelkeep_Long.l0]
    by_cases ha : (i : Int) < (l.length : Int)
    · rw [if_pos ha]
      by_cases hb : (acc : Int) ≤ 60000
      · rw [if_pos hb, if_pos (by omega)]
        obtain ⟨q, hq, hq2⟩ : ∃ q : Nat, mn ((rdOf ByteArray.empty l (i : Int)).size : Int) 60000 = (q : Int) ∧ q ≤ 60000 := by
          unfold mn
          split
          · exact ⟨60000, rfl, by omega⟩
          · exact ⟨_, rfl, by omega⟩
        have w1 : wrap64 (1 + (q : Int)) = ((1 + q : Nat) : Int) := by rw [Str.wr (by omega) (by omega)]; omega
        have w2 : wrap64 ((acc : Int) + ((1 + q : Nat) : Int)) = ((acc + (1 + q) : Nat) : Int) := by rw [Str.wr (by omega) (by omega)]; omega
        have w3 : wrap64 ((i : Int) + 1) = ((i + 1 : Nat) : Int) := by rw [Str.wr (by omega) (by omega)]; omega
        rw [hq, w1, w2, w3]
        exact long_loop l k (acc + (1 + q)) (i + 1) (by omega) (by omega) (by omega)
      · rw [if_neg hb]
        exact ⟨_, rfl, fun h => absurd h (by rw [decide_eq_true (by omega)]; decide)⟩
    · rw [if_neg ha]
      refine ⟨_, rfl, fun h => ?_⟩
      have := of_decide_eq_false h
      omega
theorem kd_row {w : World} {B : Nat} {v : Value} {l : List ByteArray} {n : Nat} (h : w.ownsRow B 9 1 v n (sC l)) (hn : l.length = n) : ∃ A c, v = .slice A l.length c ∧ l.length ≤ c ∧ Kd.C Kd.string w A l.length l := by
  subst hn
  have h0 := h
  rcases h.2 with ⟨rfl, h1⟩ | ⟨g, cap, cur, rfl, _, _, h2, h3, _, _⟩
  · exact ⟨none, 0, by rw [h1], by rw [h1]; exact Nat.le_refl _, ⟨rfl, by rw [h1]; decide, fun h => by omega⟩⟩
  · refine ⟨_, cap, rfl, h2, ⟨rfl, by simp only [maxLen] at h3; omega, fun _ => ⟨_, rfl, fun j p hj => ⟨[.string p], rfl, rfl, fun i u hi => ?_⟩⟩⟩⟩
    obtain ⟨rfl, rfl⟩ : i = 0 ∧ u = .string p := by
      cases i with
      | zero => exact ⟨rfl, by simpa using hi.symm⟩
      | succ n => simp at hi
    rw [show j * Kd.string.sz + 0 = j from Nat.mul_one j]
    exact h0.cells (g := g) rfl j _ (by rw [sC, List.getElem?_map, hj]; rfl)
theorem texts_c {A0 A1 : Option Addr} {c0 c1 : Nat} {a b : List ByteArray} (w : World) (ha : Kd.C Kd.string w A0 a.length a) (h0 : a.length ≤ c0) (hb : Kd.C Kd.string w A1 b.length b) (h1 : b.length ≤ c1) (hl : a.length ≤ 100000) :
    Calls Try.prog 23 #[.slice A0 a.length c0, .slice A1 b.length c1] w fun e w' => e = .returned (.bool (decide (a = b))) ∧ Below w.heap.size w w' :=
  (umbelkeep_Texts.calls (a.length + 1) A0 c0 a A1 c1 b _ w ha h0 hb h1 (texts_f a b hl _ (Nat.lt_succ_self _))).mono fun e w' ⟨h, hb⟩ => ⟨h, hb.below⟩
end Go.Proofs.Ytbmhfmkfkdbmdaa.DskTx
end

section
/-
  The reference's New and From.
-/
namespace Go.Proofs.Ytbmhfmkfkdbmdaa.Dsk6R
open Go.RowKit Go.Proofs.YtbmhfmkfkdbmdaaW.PrintWords Go.Proofs.YtbmhfmkfkdbmdaaW.PrintLast Go.Proofs.YtbmhfmkfkdbmdaaW.PrintMore Go.Proofs.Ytbmhfmkfkdbmdaa.DskR Go.Proofs.Ytbmhfmkfkdbmdaa.DskQ Go.Proofs.Ytbmhfmkfkdbmdaa.DskE
set_option linter.unusedVariables false
attribute [local go_sem] undef
def rdisk (limit : Int) : Obj := .cells #[.int .i64 limit, .slice none 0 0, .slice none 0 0, .int .i64 (-1), .bool false] 66
set_option maxRecDepth 100000 in
theorem rnew_no (limit : Int) (h : ¬ (1 ≤ limit ∧ limit ≤ 200)) (w : World) : Calls Try.prog 27 #[.int .i64 limit] w fun e w' => e = .returned (.tuple #[.pointer none, .bool false]) ∧ w' = w := by
  by_cases h1 : limit < 1
  · have q1 : decide (limit < 1) = true := decide_eq_true h1
    clear h1 h
    go_enter Try.func27, Try.ntmps27
    go_wp2_with fail
    go_ret2
    exact ⟨rfl, rfl⟩
  have q1 : decide (limit < 1) = false := decide_eq_false h1
  have q2 : decide (limit > 200) = true := decide_eq_true (by omega)
  clear h1 h
  go_enter Try.func27, Try.ntmps27
  go_wp2_with fail
  go_ret2
  exact ⟨rfl, rfl⟩
set_option maxRecDepth 100000 in
theorem rnew_ok (limit : Int) (h : 1 ≤ limit ∧ limit ≤ 200) (w : World) : Calls Try.prog 27 #[.int .i64 limit] w fun e w' => e = .returned (.tuple #[.pointer (some ⟨w.heap.size, 0, none⟩), .bool true]) ∧ w' = w.alloc (rdisk limit) := by
  have q1 : decide (limit < 1) = false := decide_eq_false (by omega)
  have q2 : decide (limit > 200) = false := decide_eq_false (by omega)
  clear h
  go_enter Try.func27, Try.ntmps27
  go_wp2_with fail
  go_ret2
  exact ⟨rfl, rfl⟩
theorem okD_no {l : List ByteArray} {limit : Int} (h : ¬ (1 ≤ limit ∧ limit ≤ 200)) : DskF.okD l limit = false := by
  unfold DskF.okD
  by_cases h1 : 1 ≤ limit
  · rw [decide_eq_false (show ¬ limit ≤ 200 by omega)]; simp
  · rw [decide_eq_false h1]; rfl
theorem okD_long {l : List ByteArray} {limit : Int} (h : (l.length : Int) > limit) : DskF.okD l limit = false := by
  unfold DskF.okD
  rw [decide_eq_false (show ¬ (l.length : Int) ≤ limit by omega)]; simp
theorem okD_bad {l : List ByteArray} {limit : Int} {i : Nat} (hi : i < l.length) (h : ((l[i].size : Int) != 256) = true) : DskF.okD l limit = false := by
  have e : (l.any fun x => (x.size : Int) != 256) = true := List.any_eq_true.2 ⟨_, List.getElem_mem hi, h⟩
  unfold DskF.okD
  rw [e]; simp
theorem okD_yes {l : List ByteArray} {limit : Int} (h : 1 ≤ limit ∧ limit ≤ 200) (h1 : (l.length : Int) ≤ limit) (h2 : ∀ (i : Nat) (hi : i < l.length), ((l[i].size : Int) != 256) = false) : DskF.okD l limit = true := by
  have e : (l.any fun x => (x.size : Int) != 256) = false := by
    rw [List.any_eq_false]
    intro p hp
    obtain ⟨i, hi, rfl⟩ := List.getElem_of_mem hp
    rw [h2 i hi]; decide
  unfold DskF.okD
  rw [e, decide_eq_true h.1, decide_eq_true h.2, decide_eq_true h1]; rfl
theorem news_of {w : World} {ad : Addr} {l : List ByteArray} (hr : Kd.C Kd.string w (some ad) l.length l) : ∀ (j : Nat) (u : Value), (sC l)[j]? = some u → w.cell? (ad.add j) = some u := by
  intro j u hu
  have hj : j < l.length := by have := (List.getElem?_eq_some_iff.1 hu).1; rwa [sC_length] at this
  obtain ⟨x, hx, hc⟩ := hr.2.2 (by omega)
  obtain rfl := Option.some.inj hx
  obtain ⟨cs, h1, h2, h3⟩ := hc j l[j] (List.getElem?_eq_getElem hj)
  rw [sC, List.getElem?_map, List.getElem?_eq_getElem hj] at hu
  obtain rfl := Option.some.inj hu
  have := h3 0 (.string l[j]) (by rw [h2]; rfl)
  rw [show j * Kd.string.sz + 0 = j from Nat.mul_one j] at this
  exact this
theorem sC_cell (l : List ByteArray) : ∀ u ∈ sC l, u.oneCell' = true := by
  intro u hu
  obtain ⟨s, _, rfl⟩ := List.mem_map.1 hu
  rfl
set_option maxHeartbeats 4000000 in
set_option maxRecDepth 100000 in
theorem rfrom_c (A : Option Addr) (c : Nat) (l : List ByteArray) (limit : Int) (w : World) (hr : Kd.C Kd.string w A l.length l) (hl : l.length ≤ 100000) (hc0 : A = none → c = 0) :
    Calls Try.prog 22 #[.slice A l.length c, .int .i64 limit] w fun e w' => ∃ v, e = .returned (.tuple #[v, .bool (DskF.okD l limit)]) ∧ Below w.heap.size w w' := by
  by_cases hk : 1 ≤ limit ∧ limit ≤ 200
  rotate_left
  · rw [okD_no hk]
    go_enter Try.func22, Try.ntmps22
    go_wp2_with (go_at_call 27; refine (rnew_no limit hk _).mono ?_; rintro e w1 ⟨rfl, hw⟩; subst hw)
    go_ret2
    exact ⟨_, rfl, Below.refl _ _⟩
  by_cases hlong : (l.length : Int) > limit
  · rw [okD_long hlong]
    have q1 : decide ((l.length : Int) > limit) = true := decide_eq_true hlong
    have q1' : (limit < (l.length : Int)) = True := eq_true hlong
    clear hlong
    go_enter Try.func22, Try.ntmps22
    go_wp2_with (go_at_call 27; refine (rnew_ok limit hk _).mono ?_; rintro e w1 ⟨rfl, hw⟩; subst hw)
    go_ret2
    exact ⟨_, rfl, below_alloc (Below.refl _ _) _⟩
  have q1 : decide ((l.length : Int) > limit) = false := decide_eq_false hlong
  have q1' : (limit < (l.length : Int)) = False := eq_false hlong
  have HKL := Aside0.mk (And.intro hk (show (l.length : Int) ≤ limit by omega))
  have HR := Aside0.mk hr
  have HL := Aside0.mk hl
  have HC0 := Aside0.mk hc0
  obtain ⟨i0, hj, hj0, hj1, hj2⟩ := info_parts (show (Try.prog.info? 9).map (fun i => (i.zero, i.size, i.bytes)) = some (some (.string (⟨#[]⟩ : ByteArray)), 1, 16) by kernel_rfl)
  obtain ⟨n, hn⟩ : ∃ n, n = l.length := ⟨_, rfl⟩
  have HN := Aside0.mk hn
  rw [← hn] at q1 q1' ⊢
  clear hlong hr hl hn hc0
  go_enter Try.func22, Try.ntmps22
  go_wp2_with (go_at_call 27; refine (rnew_ok limit hk _).mono ?_; rintro e w1 ⟨rfl, hw⟩; have HW := Aside0.mk hw; clear hw)
  have HB1 := Aside0.mk (show Below w.heap.size w w1 by rw [HW.out]; exact below_alloc (Below.refl _ _) _)
  have hblk : w1.heap[w.heap.size]? = some (rdisk limit) := by rw [HW.out]; exact blk_new _ _
  unfold rdisk at hblk
  obtain ⟨g, hg⟩ : ∃ g, g = w.heap.size := ⟨_, rfl⟩
  rw [← hg] at hblk ⊢
  have HG := Aside0.mk hg
  have HBK := Aside0.mk hblk
  clear hg hblk HW
  go_loopg [8] (n + 1) (fun gk v8 w' => ∃ (i : Nat), v8 = .int .i64 (i : Int) ∧ Aside0 (gk + i = n + 1 ∧ i ≤ n) ∧ w' = w1 ∧ Aside0 (∀ (j : Nat) (hj : j < l.length), j < i → ((l[j].size : Int) != 256) = false))
  case atStart => exact ⟨0, rfl, ⟨rfl, Nat.zero_le _⟩, rfl, ⟨fun _ _ h => absurd h (by omega)⟩⟩
  case round =>
    obtain ⟨i, rfl, HK, rfl, HA⟩ := hrel
    by_cases hi : i < n
    · have qi : (i < n) = True := eq_true hi
      cases gk with
      | zero => exact absurd HK.out (by omega)
      | succ k1_ =>
      obtain ⟨bk, o, rfl, hlt, hcell⟩ := DskF.C_cells HR.out (by have := HN.out; omega)
      have hi' : i < l.length := by have := HN.out; omega
      have d1 := (HB1.out.cell (p := ⟨bk, o + i, none⟩) hlt).trans (hcell i l[i] (List.getElem?_eq_getElem hi'))
      obtain ⟨s, hs⟩ : ∃ s, s = l[i] := ⟨_, rfl⟩
      rw [← hs] at d1
      have HI := Aside0.mk hi
      by_cases hb : ((s.size : Int) != 256) = true
      · have HBAD := Aside0.mk (okD_bad (limit := limit) hi' (by rw [← hs]; exact hb))
        clear hi hi' hs hcell hlt
        go_wp2_with fail
        go_ret2
        refine ⟨.pointer none, ?_, HB1.out⟩
        rw [HBAD.out]; rfl
      · have hb' := Bool.eq_false_iff.2 hb
        have HS := Aside0.mk (show ((l[i].size : Int) != 256) = false by rw [← hs]; exact hb')
        clear hi hs hcell hlt hb
        go_wp2_with fail
        go_roundg k1_
        case measure => omega
        case rel => exact ⟨i + 1, by first | rfl | (congr 1; have := HI.out; have := HN.out; have := HL.out; unfold wrap64; omega), ⟨by have := HK.out; have := HI.out; omega⟩, rfl, ⟨fun j hj h => by
          by_cases e : j = i
          · subst e; exact HS.out
          · exact HA.out j hj (by omega)⟩⟩
    · have qi : (i < n) = False := eq_false hi
      have hok := okD_yes HKL.out.1 HKL.out.2 (fun j hj => HA.out j hj (by have := HN.out; omega))
      have HOK := Aside0.mk hok
      have c0 : wr.cell? ⟨g, 1, none⟩ = some (.slice none 0 0) := (blk_cell HBK.out 1).trans rfl
      have f0 := blk_frozen HBK.out 1
      clear hi hok
      cases A with
      | none =>
        have hn0 : n = 0 := by
          rcases Nat.eq_zero_or_pos n with h | h
          · exact h
          · obtain ⟨x, hx, _⟩ := HR.out.2.2 (by have := HN.out; omega)
            cases hx
        have hcc := HC0.out rfl
        subst hcc
        subst hn0
        have HBK1 := blk_alloc HBK.out (.cells #[] 9)
        have c1 : (wr.alloc (.cells #[] 9)).cell? ⟨g, 1, none⟩ = some (.slice none 0 0) := (blk_cell HBK1 1).trans rfl
        have f1 := blk_frozen HBK1 1
        clear HBK1
        go_wp2_with fail
        go_ret2
        refine ⟨⟨.pointer (some ⟨g, 0, none⟩), ?_⟩, (HB1.out.trans (below_alloc (Below.refl _ _) _ |>.mono HB1.out.size)).setCell (p := ⟨g, 1, none⟩) (by show _ ≤ g; rw [HG.out]; exact Nat.le_refl _) _⟩
        rw [HOK.out]; rfl
      | some ad =>
        have H1 := Aside0.mk (show ((wr.alloc (.cells #[] 9)).ownsRow wr.heap.size 9 1 (.slice (some ⟨wr.heap.size, 0, none⟩) 0 0) 0 []) from ⟨rfl, .inr ⟨_, 0, #[], rfl, Nat.le_refl _, blk_new _ _, by omega, by decide, rfl, rfl⟩⟩)
        have HR1 := Aside0.mk (Kd.C_below HR.out (HB1.out.trans (below_alloc (Below.refl _ _) (.cells #[] 9) |>.mono HB1.out.size)))
        have H2 := Aside0.mk (news_of HR1.out)
        have H3 := Aside0.mk (show wr.heap.size ≤ (wr.alloc (.cells #[] 9)).heap.size by simp)
        have HW1 := Aside0.mk (below_alloc (Below.refl wr.heap.size wr) (.cells #[] 9))
        have HSL := Aside0.mk (show (sC l).length = n * 1 by rw [sC_length, HN.out]; omega)
        go_wp2_with ((with_reducible refine gate_builtin (b := .append) (xs := #[.tmp 35, .tmp 36]) rfl ?_); at_builtin; go_must (refine wpList_append_own _ rfl (.tmp 35) (.tmp 36) 47 rfl wr.heap.size 9 i0 _ 1 16 Try.underlying47 hj hj0 hj1 hj2 rfl (by decide) _ 0 [] rfl H1.out ad n c (sC l) rfl HSL.out H2.out (sC_cell l) (by have := HL.out; have := HN.out; unfold maxLen; omega) (by have := HL.out; have := HN.out; omega) H3.out ?_; intro v w2 ho hgr hz; obtain ⟨gv, cv, rfl⟩ := DskV.form ho; have HO := Aside0.mk ho; have HB2 := Aside0.mk (HW1.out.trans (show Below wr.heap.size _ w2 from ⟨hgr.os, hgr.tape, hgr.output, hgr.size, fun k hk => hgr.block k (Nat.lt_of_lt_of_le hk H3.out) (fun e => absurd hk (by cases e; exact Nat.lt_irrefl _))⟩)); clear ho hgr hz; have HBK2 := Aside0.mk (blk_below HBK.out HB2.out); have c0 : w2.cell? ⟨g, 1, none⟩ = some (.slice none 0 0) := (blk_cell HBK2.out 1).trans rfl; have f0 := blk_frozen HBK2.out 1))
        go_ret2
        refine ⟨.pointer (some ⟨g, 0, none⟩), ?_, (HB1.out.trans (HB2.out.mono HB1.out.size)).setCell (p := ⟨g, 1, none⟩) (by show _ ≤ g; rw [HG.out]; exact Nat.le_refl _) _⟩
        rw [HOK.out]; rfl
end Go.Proofs.Ytbmhfmkfkdbmdaa.Dsk6R
end
