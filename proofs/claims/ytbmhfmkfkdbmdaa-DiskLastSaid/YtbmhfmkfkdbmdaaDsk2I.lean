import Derived.Test.YtbmhfmkfkdbmdaaDskP
import Derived.Test.YtbmhfmkfkdbmdaaDskQ
import Derived.Deep.DeepMust
import Derived.Test.YtbmhfmkfkdbmdaaProg
import Derived.Test.YtbmhfmkfkdbmdaaCalm
import Derived.OpenShut
import Derived.ProofKit
import Derived.Deep.Strs
import Derived.Lib.SmallJoins
import Derived.ChangeOld
import Derived.SizedLaws
section
/-
  The disk's methods, one line each: a disk that stands above a world.
-/
namespace Go.Proofs.Ytbmhfmkfkdbmdaa.DskX
open Go.RowKit Go.Proofs.YtbmhfmkfkdbmdaaW.PrintWords Go.Proofs.YtbmhfmkfkdbmdaaW.PrintLast Go.Proofs.YtbmhfmkfkdbmdaaW.PrintMore Go.Proofs.Ytbmhfmkfkdbmdaa.DskR Go.Proofs.Ytbmhfmkfkdbmdaa.DskQ
set_option linter.unusedVariables false
/-- A disk that was made above W, and nothing below turned. -/
def J (W : World) (D : Nat) (x : Dk) (w : World) : Prop := (∃ vs vq, IsD w W.heap.size D vs vq x) ∧ Below W.heap.size W w
/-- .. where nothing waits in no row at all. -/
def JN (W : World) (D : Nat) (x : Dk) (w : World) : Prop := (∃ vs, IsD w W.heap.size D vs (.slice none 0 0) x) ∧ Below W.heap.size W w
section
variable {W w : World} {D : Nat} {x x' : Dk}
theorem JN.toJ (h : JN W D x w) : J W D x w := ⟨let ⟨vs, hd⟩ := h.1; ⟨vs, _, hd⟩, h.2⟩
theorem J.below (h : J W D x w) {w' : World} (hb : Below w.heap.size w w') : J W D x w' :=
  ⟨let ⟨vs, vq, hd⟩ := h.1; ⟨vs, vq, hd.below hb⟩, below_step h.2 hb⟩
theorem JN.below (h : JN W D x w) {w' : World} (hb : Below w.heap.size w w') : JN W D x w' :=
  ⟨let ⟨vs, hd⟩ := h.1; ⟨vs, hd.below hb⟩, below_step h.2 hb⟩
theorem J.of_post {vs vq : Value} (hd : IsD w W.heap.size D vs vq x) (hb : Below W.heap.size W w) {w' : World} (h : Post w W.heap.size D vs vq x' w') : J W D x' w' := by
  obtain ⟨vs', vq', h1, h2, _⟩ := h
  exact ⟨⟨vs', vq', h1⟩, hb.trans (h2.below hb.size (fun k hk => hd.own_ge hk))⟩
theorem new3 (W : World) : Calls Try.prog 11 #[.int .i64 3] W fun e w' => ∃ D, e = .returned (.tuple #[.pointer (some ⟨D, 0, none⟩), .bool true]) ∧ J W D ⟨[], [], 3, -1, false⟩ w' := by
  refine (DskF.new_c 3 W).mono ?_
  rintro e w' ⟨hb, h⟩
  rw [if_pos (by decide)] at h
  obtain ⟨D, vs, rfl, hd⟩ := h
  exact ⟨D, rfl, ⟨vs, _, hd⟩, hb⟩
theorem j_write (h : J W D x w) (hq : x.q.length < 1000000) (hu : x.fuse < 9223372036854775808) (at_ : Int) (s : ByteArray) {r : Int} (e : DskV.wr x at_ s = (r, x')) :
    Calls Try.prog 13 #[.pointer (some ⟨D, 0, none⟩), .int .i64 at_, .string s] w fun e w' => e = .returned (.int .i64 r) ∧ J W D x' w' := by
  obtain ⟨⟨vs, vq, hd⟩, hb⟩ := h
  refine (DskV.write_c hd hb.size hq hu at_ s).mono ?_
  rintro e' w' ⟨rfl, hp⟩
  rw [e] at hp ⊢
  exact ⟨rfl, J.of_post hd hb hp⟩
theorem j_sync (h : J W D x w) (hq : x.q.length < 1000000) (hg : ∀ p ∈ x.q, 0 ≤ p.1 ∧ p.1 < x.s.length) (hu : x.fuse < 9223372036854775808) {r : Int} (e : DskT.sy x = (r, x')) :
    Calls Try.prog 15 #[.pointer (some ⟨D, 0, none⟩)] w fun e w' => e = .returned (.int .i64 r) ∧ J W D x' w' := by
  obtain ⟨⟨vs, vq, hd⟩, hb⟩ := h
  refine (DskT.sync_c hd hb.size hq hg hu).mono ?_
  rintro e' w' ⟨rfl, hp⟩
  rw [e] at hp ⊢
  exact ⟨rfl, J.of_post hd hb hp⟩
theorem j_grow (h : J W D x w) (hx : x.s.length < 1000000) (hc : x.cap < 1000000) (hu : x.fuse < 9223372036854775808) (n : Int) {r : Int} (e : DskH.gr x n = (r, x')) :
    Calls Try.prog 12 #[.pointer (some ⟨D, 0, none⟩), .int .i64 n] w fun e w' => e = .returned (.int .i64 r) ∧ J W D x' w' := by
  obtain ⟨⟨vs, vq, hd⟩, hb⟩ := h
  refine (DskH.grow_c hd hb.size hx hc hu n).mono ?_
  rintro e' w' ⟨rfl, hp⟩
  rw [e] at hp ⊢
  exact ⟨rfl, J.of_post hd hb hp⟩
theorem j_fuse (h : J W D x w) (n : Int) (e : ({ x with fuse := if n < -1 then -1 else n } : Dk) = x') :
    Calls Try.prog 18 #[.pointer (some ⟨D, 0, none⟩), .int .i64 n] w fun e w' => e = .returned (.tuple #[]) ∧ J W D x' w' := by
  obtain ⟨⟨vs, vq, hd⟩, hb⟩ := h
  refine (DskM.fuse_c hd n).mono ?_
  rintro e' w' ⟨rfl, hp⟩
  rw [e] at hp
  exact ⟨rfl, J.of_post hd hb hp⟩
theorem j_read (h : J W D x w) (hq : x.q.length < 1000000) (at_ : Int) {s : ByteArray} {r : Int} (e : DskK.rd x at_ = (s, r)) :
    Calls Try.prog 17 #[.pointer (some ⟨D, 0, none⟩), .int .i64 at_] w fun e w' => e = .returned (.tuple #[.string s, .int .i64 r]) ∧ J W D x w' := by
  have hJ := h
  obtain ⟨⟨vs, vq, hd⟩, hb⟩ := h
  refine (DskK.read_c hd hq at_).mono ?_
  rintro e' w' ⟨rfl, hp⟩
  rw [e]
  exact ⟨rfl, hJ.below hp⟩
theorem jn_read (h : JN W D x w) (hq : x.q.length < 1000000) (at_ : Int) {s : ByteArray} {r : Int} (e : DskK.rd x at_ = (s, r)) :
    Calls Try.prog 17 #[.pointer (some ⟨D, 0, none⟩), .int .i64 at_] w fun e w' => e = .returned (.tuple #[.string s, .int .i64 r]) ∧ JN W D x w' := by
  have hJ := h
  obtain ⟨⟨vs, hd⟩, hb⟩ := h
  refine (DskK.read_c hd hq at_).mono ?_
  rintro e' w' ⟨rfl, hp⟩
  rw [e]
  exact ⟨rfl, hJ.below hp⟩
/-- The choice lies apart: below W, or not among the disk's blocks. -/
theorem j_crash (h : J W D x w) (hq : x.q.length < 1000000) (hg : ∀ p ∈ x.q, 0 ≤ p.1 ∧ p.1 < x.s.length) (hs6 : ∀ p ∈ x.s, p.size = 256) (hq6 : ∀ p ∈ x.q, p.2.size = 256) (CA : Option Addr) (cc : Nat) (l : List Int) (hl : ∀ c ∈ l, 0 ≤ c ∧ c < 256) (hr : Kd.C (Kd.int .u8) w CA l.length l)
    (hsep : ∀ ad, CA = some ad → ad.block < W.heap.size ∨ ∃ cs fz, w.heap[ad.block]? = some (.cells cs 5 fz)) (e : DskC.crash x l = x') :
    Calls Try.prog 16 #[.pointer (some ⟨D, 0, none⟩), .slice CA l.length cc] w fun e w' => e = .returned (.tuple #[]) ∧ JN W D x' w' := by
  obtain ⟨⟨vs, vq, hd⟩, hb⟩ := h
  refine (DskC.crash_c hd hq hg hs6 hq6 CA cc l hl hr (fun ad ha => ?_)).mono ?_
  · rcases hsep ad ha with h1 | ⟨cs, fz, h1⟩
    · exact ⟨fun hk => Nat.not_lt.2 (hd.own_ge hk) h1, Nat.lt_of_lt_of_le h1 hb.size⟩
    · refine ⟨fun hk => ?_, blk_lt h1⟩
      rcases hk with hk | hk | hk
      · rw [hk, hd.blk] at h1; simp at h1
      · exact DskW.ne_own hd.rs h1 (by decide) hk.symm
      · exact DskW.ne_own hd.rq h1 (by decide) hk.symm
  · rintro e' w' ⟨rfl, vs', h1, h2, _⟩
    rw [e] at h1
    exact ⟨rfl, ⟨vs', h1⟩, hb.trans (h2.below hb.size (fun k hk => hd.own_ge hk))⟩
theorem p_length (h : JN W D x w) : Calls Try.prog 26 #[.pointer (some ⟨D, 0, none⟩)] w fun e w' => e = .returned (.int .i64 (x.s.length : Int)) ∧ Below w.heap.size w w' := by
  obtain ⟨⟨vs, hd⟩, hb⟩ := h
  obtain ⟨A, c, e⟩ := DskV.form hd.rs
  exact DskM.length_c hd e
theorem p_limit (h : JN W D x w) : Calls Try.prog 25 #[.pointer (some ⟨D, 0, none⟩)] w fun e w' => e = .returned (.int .i64 x.cap) ∧ Below w.heap.size w w' := by
  obtain ⟨⟨vs, hd⟩, hb⟩ := h
  exact DskM.limit_c hd
theorem p_waiting (h : JN W D x w) : Calls Try.prog 19 #[.pointer (some ⟨D, 0, none⟩)] w fun e w' => e = .returned (.slice none 0 0) ∧ Below w.heap.size w w' := by
  obtain ⟨⟨vs, hd⟩, hb⟩ := h
  exact DskP.waiting_none hd
end
end Go.Proofs.Ytbmhfmkfkdbmdaa.DskX
end

section
/-
  slices.Clone of what waits; Waiting.
-/
namespace Go.Proofs.Ytbmhfmkfkdbmdaa.DskZ
open Go.RowKit Go.Proofs.YtbmhfmkfkdbmdaaW.PrintWords Go.Proofs.YtbmhfmkfkdbmdaaW.PrintLast Go.Proofs.YtbmhfmkfkdbmdaaW.PrintMore Go.Proofs.Ytbmhfmkfkdbmdaa.DskR
set_option linter.unusedVariables false
theorem run_equalIn_slice_nil {P : Program} (w : World) (d : Nat) (t e : TypeId) (a : Option Addr) (l c : Nat) (h : P.underlying t = some (.slice e)) : (Op.equalIn (d + 1) t (.slice a l c) (.slice none 0 0)).run P w = .ok a.isNone w := by
  cases a <;> simp [Op.equalIn, run_underlying h]
theorem run_equal_slice_nil {P : Program} (w : World) (t e : TypeId) (a : Option Addr) (l c : Nat) (h : P.underlying t = some (.slice e)) : (Op.equal t (.slice a l c) (.slice none 0 0)).run P w = .ok a.isNone w := run_equalIn_slice_nil w 9999 t e a l c h
theorem run_eql_slice_nil {P : Program} (w : World) (t e : TypeId) (a : Option Addr) (l c : Nat) (h : P.underlying t = some (.slice e)) : (binOp .eql t (.slice a l c) (.slice none 0 0)).run P w = .ok (.bool a.isNone) w := by
  simp [binOp, run_equal_slice_nil w t e a l c h]
theorem qC_cell (l : List (Int × ByteArray)) : ∀ u ∈ qC l, u.oneCell' = true := by
  intro u hu
  unfold qC at hu
  rw [List.mem_flatMap] at hu
  obtain ⟨p, _, hp⟩ := hu
  simp only [List.mem_cons, List.not_mem_nil, or_false] at hp
  rcases hp with rfl | rfl <;> rfl
section
variable {w : World} {B D : Nat} {vs vq : Value} {x : Dk}
set_option maxRecDepth 100000 in
set_option maxHeartbeats 2000000 in
theorem clone_some {g n c : Nat} {l : List (Int × ByteArray)} (hr : w.ownsRow B 76 2 (.slice (some ⟨g, 0, none⟩) n c) n (qC l)) (hB : B ≤ w.heap.size) (hn : n < 1000000) (hl : l.length = n) :
    Calls Try.prog 46 #[.slice (some ⟨g, 0, none⟩) n c] w fun e w' => ∃ v, e = .returned v ∧ w'.ownsRow w.heap.size 76 2 v n (qC l) ∧ Below w.heap.size w w' := by
  obtain ⟨i0, hi, hi0, hi1, hi2⟩ := info_parts (show (Try.prog.info? 76).map (fun i => (i.zero, i.size, i.bytes)) = some (some (.agg #[.int .i64 0, .string (⟨#[]⟩ : ByteArray)]), 2, 24) by kernel_rfl)
  have hq := run_eql_slice_nil (P := Try.prog) w 41 76 (some ⟨g, 0, none⟩) n c Try.underlying41
  simp only [Option.isNone_some] at hq
  have hc := hr.cells (g := g) rfl
  have hgl : g < w.heap.size := (hr.lt g rfl).2
  have HR := Aside0.mk hr
  have HC := Aside0.mk hc
  clear hr hc
  go_enter Try.func46, Try.ntmps46
  have H1 := Aside0.mk (show ((w.alloc (.cells #[] 76)).ownsRow w.heap.size 76 2 (.slice (some ⟨w.heap.size, 0, none⟩) 0 0) 0 []) from ⟨rfl, .inr ⟨_, 0, #[], rfl, Nat.le_refl _, blk_new _ _, by omega, by decide, rfl, rfl⟩⟩)
  have H2 := Aside0.mk (show ∀ j u, (qC l)[j]? = some u → (w.alloc (.cells #[] 76)).cell? ((⟨g, 0, none⟩ : Addr).add j) = some u from fun j u hu => ((below_alloc (Below.refl w.heap.size w) _).cell (p := (⟨g, 0, none⟩ : Addr).add j) (by unfold Addr.add; split <;> exact hgl)).trans (HC.out j u hu))
  have H3 := Aside0.mk (show w.heap.size ≤ (w.alloc (.cells #[] 76)).heap.size by simp)
  have H4 := Aside0.mk (qC_cell l)
  have H5 := Aside0.mk (below_alloc (Below.refl w.heap.size w) (.cells #[] 76))
  go_wp2_with ((with_reducible refine gate_builtin (b := .append) (xs := #[.tmp 5, .tmp 6]) rfl ?_); at_builtin; refine wpList_append_own _ rfl (.tmp 5) (.tmp 6) 41 rfl w.heap.size 76 i0 _ 2 24 Try.underlying41 hi hi0 hi1 hi2 rfl (by decide) _ 0 [] rfl H1.out ⟨g, 0, none⟩ n c (qC l) rfl (by rw [qC_length, hl]) H2.out H4.out (by unfold maxLen; omega) (by omega) H3.out ?_; intro v w2 ho hg hz; have HO := Aside0.mk ho; have HG := Aside0.mk hg; clear ho hg hz)
  go_ret
  have ho := HO.out
  rw [Nat.zero_add, List.nil_append] at ho
  exact ⟨v, rfl, ho, H5.out.trans ⟨HG.out.os, HG.out.tape, HG.out.output, HG.out.size, fun k hk => HG.out.block k (Nat.lt_of_lt_of_le hk H3.out) (fun e => absurd hk (by cases e; exact Nat.lt_irrefl _))⟩⟩
set_option maxRecDepth 100000 in
theorem clone_nil (w : World) : Calls Try.prog 46 #[.slice none 0 0] w fun e w' => e = .returned (.slice none 0 0) ∧ Below w.heap.size w w' := by
  have hq := run_eql_slice_nil (P := Try.prog) w 41 76 none 0 0 Try.underlying41
  simp only [Option.isNone_none] at hq
  go_enter Try.func46, Try.ntmps46
  go_wp2_with fail
  go_ret
  exact ⟨rfl, Below.refl _ _⟩
theorem clone_c {l : List (Int × ByteArray)} {v : Value} (hr : w.ownsRow B 76 2 v l.length (qC l)) (hB : B ≤ w.heap.size) (hn : l.length < 1000000) :
    Calls Try.prog 46 #[v] w fun e w' => ∃ v, e = .returned v ∧ w'.ownsRow w.heap.size 76 2 v l.length (qC l) ∧ Below w.heap.size w w' := by
  rcases hr.2 with ⟨rfl, h0⟩ | ⟨g, cap, cur, rfl, _⟩
  · refine (clone_nil w).mono ?_
    rintro e w' ⟨rfl, hb⟩
    rw [List.eq_nil_of_length_eq_zero h0]
    exact ⟨_, rfl, World.ownsRow_nil _ _ _ _, hb⟩
  · exact clone_some hr hB hn rfl
end
end Go.Proofs.Ytbmhfmkfkdbmdaa.DskZ
end

section
/-
  What a disk shows: plain words; calls that leave blocks of other kinds as they were.
-/
namespace Go.Proofs.Ytbmhfmkfkdbmdaa.DskE
open Go.RowKit Go.Proofs.YtbmhfmkfkdbmdaaW.PrintWords Go.Proofs.YtbmhfmkfkdbmdaaW.PrintLast Go.Proofs.YtbmhfmkfkdbmdaaW.PrintMore Go.Proofs.Ytbmhfmkfkdbmdaa.DskR Go.Proofs.Ytbmhfmkfkdbmdaa.DskQ Go.Proofs.Ytbmhfmkfkdbmdaa.DskX
set_option linter.unusedVariables false
/-- All pages as they would be were all stable. -/
def cur (x : Dk) : List ByteArray := DskQ.putAll x.s x.q
theorem put_length : ∀ (q : List (Int × ByteArray)) (s : List ByteArray), (DskQ.putAll s q).length = s.length
  | [], _ => rfl
  | p :: q, s => by rw [DskQ.putAll, put_length q, List.length_set]
theorem put_snoc (p : Int × ByteArray) : ∀ (q : List (Int × ByteArray)) (s : List ByteArray), DskQ.putAll s (q ++ [p]) = (DskQ.putAll s q).set p.1.toNat p.2
  | [], _ => rfl
  | r :: q, s => by rw [List.cons_append, DskQ.putAll, put_snoc p q, DskQ.putAll]
theorem datK_congr {x y : Dk} (a : Int) (hs : x.s = y.s) : ∀ n, (∀ k, k < n → x.q.getD k z0 = y.q.getD k z0) → DskJ.datK x a n = DskJ.datK y a n
  | 0, _ => by rw [DskJ.datK, DskJ.datK, hs]
  | n + 1, h => by rw [DskJ.datK, DskJ.datK, h n (Nat.lt_succ_self n), datK_congr a hs n (fun k hk => h k (Nat.lt_succ_of_lt hk))]
theorem dat_snoc (x : Dk) (q : List (Int × ByteArray)) (p : Int × ByteArray) (hq : x.q = q ++ [p]) (a : Int) : DskJ.dat x a = if p.1 = a then p.2 else DskJ.dat { x with q := q } a := by
  have e : x.q.getD q.length z0 = p := by rw [hq, List.getD_eq_getElem?_getD, List.getElem?_append_right (Nat.le_refl _)]; simp
  show DskJ.datK x a x.q.length = _
  rw [show x.q.length = q.length + 1 by rw [hq]; simp, DskJ.datK, e]
  split
  · rfl
  exact datK_congr (x := x) (y := { x with q := q }) a rfl q.length (fun k hk => by rw [hq, List.getD_eq_getElem?_getD, List.getD_eq_getElem?_getD, List.getElem?_append_left hk])
theorem dat_cur (s : List ByteArray) (cap fuse : Int) (down : Bool) (a : Int) (h0 : 0 ≤ a) (h1 : a < s.length) : ∀ (n : Nat) (q : List (Int × ByteArray)), q.length = n → (∀ p ∈ q, 0 ≤ p.1) → DskJ.dat ⟨s, q, cap, fuse, down⟩ a = (DskQ.putAll s q).getD a.toNat e0
  | 0, q, hn, _ => by
    obtain rfl := List.eq_nil_of_length_eq_zero hn
    rfl
  | n + 1, q, hn, hp => by
    rcases List.eq_nil_or_concat q with rfl | ⟨q', p, rfl⟩
    · cases hn
    rw [List.concat_eq_append] at hn hp ⊢
    rw [dat_snoc _ q' p rfl a, put_snoc]
    have ih := dat_cur s cap fuse down a h0 h1 n q' (by simpa using hn) (fun r hr => hp r (List.mem_append_left _ hr))
    have p0 := hp p (by simp)
    rw [List.getD_eq_getElem?_getD]
    by_cases e : p.1 = a
    · rw [if_pos e, e, List.getElem?_set_self (by rw [put_length]; omega)]; rfl
    · rw [if_neg e, List.getElem?_set_ne (by omega), ← List.getD_eq_getElem?_getD]
      exact ih
theorem rd_cur (x : Dk) (hd : x.down = false) (hq : ∀ p ∈ x.q, 0 ≤ p.1) (a : Int) (h0 : 0 ≤ a) (h1 : a < x.s.length) : DskK.rd x a = ((cur x).getD a.toNat e0, 0) := by
  unfold DskK.rd
  rw [if_neg (by rw [hd]; decide), if_neg (by simp [h0, h1])]
  exact congrArg (·, 0) (dat_cur x.s x.cap x.fuse x.down a h0 h1 _ x.q rfl hq)
/-- Blocks of other kinds are as they were. -/
def Kp (w w' : World) : Prop := ∀ (g : Nat) (cs : Array Value) (t : TypeId) (fz : Nat × Nat), t ≠ 71 → t ≠ 9 → t ≠ 76 → w.heap[g]? = some (.cells cs t fz) → w'.heap[g]? = some (.cells cs t fz)
theorem Kp.of_below {w w' : World} (h : Below w.heap.size w w') : Kp w w' := fun g cs t fz _ _ _ hg => (h.block g (blk_lt hg)).trans hg
theorem Kp.refl (w : World) : Kp w w := fun _ _ _ _ _ _ _ h => h
theorem Kp.trans {a b c : World} (h : Kp a b) (k : Kp b c) : Kp a c := fun g cs t fz h1 h2 h3 hg => k g cs t fz h1 h2 h3 (h g cs t fz h1 h2 h3 hg)
section
variable {W w : World} {B D : Nat} {vs vq : Value} {x x' : Dk}
theorem not_own (hd : IsD w B D vs vq x) {g : Nat} {cs : Array Value} {t : TypeId} {fz : Nat × Nat} (h1 : t ≠ 71) (h2 : t ≠ 9) (h3 : t ≠ 76) (hg : w.heap[g]? = some (.cells cs t fz)) : ¬ own D vs vq g := by
  rintro (rfl | hk | hk)
  · rw [hd.blk] at hg; injection hg with hg; injection hg with _ ht _; exact h1 ht.symm
  · exact DskW.ne_own hd.rs hg (fun e => h2 e.symm) hk.symm
  · exact DskW.ne_own hd.rq hg (fun e => h3 e.symm) hk.symm
theorem Kp.of_fr (hd : IsD w B D vs vq x) {w' : World} (hf : Fr w w' (own D vs vq)) : Kp w w' := fun g cs t fz h1 h2 h3 hg => (hf.block g (blk_lt hg) (not_own hd h1 h2 h3 hg)).trans hg
theorem k_write (h : J W D x w) (hq : x.q.length < 1000000) (hu : x.fuse < 9223372036854775808) (at_ : Int) (s : ByteArray) {r : Int} (e : DskV.wr x at_ s = (r, x')) :
    Calls Try.prog 13 #[.pointer (some ⟨D, 0, none⟩), .int .i64 at_, .string s] w fun e w' => e = .returned (.int .i64 r) ∧ J W D x' w' ∧ Kp w w' := by
  obtain ⟨⟨vs, vq, hd⟩, hb⟩ := h
  refine (DskV.write_c hd hb.size hq hu at_ s).mono ?_
  rintro e' w' ⟨rfl, hp⟩
  rw [e] at hp ⊢
  exact ⟨rfl, J.of_post hd hb hp, let ⟨_, _, _, hf, _⟩ := hp; Kp.of_fr hd hf⟩
theorem k_sync (h : J W D x w) (hq : x.q.length < 1000000) (hg : ∀ p ∈ x.q, 0 ≤ p.1 ∧ p.1 < x.s.length) (hu : x.fuse < 9223372036854775808) {r : Int} (e : DskT.sy x = (r, x')) :
    Calls Try.prog 15 #[.pointer (some ⟨D, 0, none⟩)] w fun e w' => e = .returned (.int .i64 r) ∧ J W D x' w' ∧ Kp w w' := by
  obtain ⟨⟨vs, vq, hd⟩, hb⟩ := h
  refine (DskT.sync_c hd hb.size hq hg hu).mono ?_
  rintro e' w' ⟨rfl, hp⟩
  rw [e] at hp ⊢
  exact ⟨rfl, J.of_post hd hb hp, let ⟨_, _, _, hf, _⟩ := hp; Kp.of_fr hd hf⟩
theorem k_read (h : J W D x w) (hq : x.q.length < 1000000) (at_ : Int) {s : ByteArray} {r : Int} (e : DskK.rd x at_ = (s, r)) :
    Calls Try.prog 17 #[.pointer (some ⟨D, 0, none⟩), .int .i64 at_] w fun e w' => e = .returned (.tuple #[.string s, .int .i64 r]) ∧ J W D x w' ∧ Kp w w' := by
  have hJ := h
  obtain ⟨⟨vs, vq, hd⟩, hb⟩ := h
  refine (DskK.read_c hd hq at_).mono ?_
  rintro e' w' ⟨rfl, hp⟩
  rw [e]
  exact ⟨rfl, hJ.below hp, Kp.of_below hp⟩
theorem new_c (n : Int) (h0 : 1 ≤ n) (h1 : n ≤ 200) (W : World) : Calls Try.prog 11 #[.int .i64 n] W fun e w' => ∃ D, e = .returned (.tuple #[.pointer (some ⟨D, 0, none⟩), .bool true]) ∧ J W D ⟨[], [], n, -1, false⟩ w' := by
  refine (DskF.new_c n W).mono ?_
  rintro e w' ⟨hb, h⟩
  rw [if_pos (by simp [DskF.okD]; omega)] at h
  obtain ⟨D, vs, rfl, hd⟩ := h
  exact ⟨D, rfl, ⟨vs, _, hd⟩, hb⟩
theorem J.far (h : J W D x w) {g : Nat} {cs : Array Value} {t : TypeId} {fz : Nat × Nat} (h1 : t ≠ 71) (h2 : t ≠ 9) (h3 : t ≠ 76) (hg : w.heap[g]? = some (.cells cs t fz)) (hge : W.heap.size ≤ g) (o : Nat) (u : Value) : J W D x (w.setCell ⟨g, o, none⟩ u) := by
  obtain ⟨⟨vs, vq, hd⟩, hb⟩ := h
  exact ⟨⟨vs, vq, hd.far ⟨g, o, none⟩ u (not_own hd h1 h2 h3 hg)⟩, hb.setCell hge u⟩
end
end Go.Proofs.Ytbmhfmkfkdbmdaa.DskE
end

section
/-
  wakes: what each step makes.
-/
namespace Go.Proofs.Ytbmhfmkfkdbmdaa.DskYF
open Go.RowKit Go.Proofs.YtbmhfmkfkdbmdaaW.PrintWords Go.Proofs.YtbmhfmkfkdbmdaaW.PrintLast Go.Proofs.YtbmhfmkfkdbmdaaW.PrintMore Go.Proofs.Ytbmhfmkfkdbmdaa.DskR Go.Proofs.Ytbmhfmkfkdbmdaa.DskQ Go.Proofs.Ytbmhfmkfkdbmdaa.DskX
set_option linter.unusedVariables false
set_option maxRecDepth 100000 in
theorem pg0_fill : DskG.pg0 = DskP.fillB 0 := by decide +kernel
set_option maxRecDepth 100000 in
theorem torn_fill : DskU.tornB (DskP.fillB 0) (DskP.fillB 7) 1 = (DskP.fillB 7).extract 0 64 ++ (DskP.fillB 0).extract 64 256 := by decide +kernel
section
variable {F0 F1 F7 Z : ByteArray}
theorem s1 (h0 : DskG.pg0 = F0) : DskH.gr ⟨[], [], 3, -1, false⟩ 2 = (0, ⟨[F0, F0], [], 3, -1, false⟩) := by subst h0; rfl
theorem s2 : DskH.gr ⟨[F0, F0], [], 3, -1, false⟩ 4 = (3, ⟨[F0, F0], [], 3, -1, false⟩) := by rfl
theorem s3 (h : F7.size = 256) : DskV.wr ⟨[F0, F0], [], 3, -1, false⟩ 1 F7 = (0, ⟨[F0, F0], [(1, F7)], 3, -1, false⟩) := by simp [DskV.wr, h]
theorem s4 : DskK.rd ⟨[F0, F0], [(1, F7)], 3, -1, false⟩ 1 = (F7, 0) := by simp [DskK.rd, DskJ.dat, DskJ.datK]
theorem s5 (h : DskU.tornB F0 F7 1 = Z) : DskC.crash ⟨[F0, F0], [(1, F7)], 3, -1, false⟩ [1] = ⟨[F0, Z], [], 3, -1, false⟩ := by subst h; rfl
theorem s6 : DskK.rd ⟨[F0, Z], [], 3, -1, false⟩ 1 = (Z, 0) := by simp [DskK.rd, DskJ.dat, DskJ.datK]
theorem s7 : ({ (⟨[F0, Z], [], 3, -1, false⟩ : Dk) with fuse := if (1 : Int) < -1 then -1 else 1 } : Dk) = ⟨[F0, Z], [], 3, 1, false⟩ := rfl
theorem s8 (h : F1.size = 256) : DskV.wr ⟨[F0, Z], [], 3, 1, false⟩ 0 F1 = (0, ⟨[F0, Z], [(0, F1)], 3, 0, false⟩) := by simp [DskV.wr, h]
theorem s9 : DskT.sy ⟨[F0, Z], [(0, F1)], 3, 0, false⟩ = (2, ⟨[F0, Z], [(0, F1)], 3, 0, true⟩) := rfl
theorem s10 : DskK.rd ⟨[F0, Z], [(0, F1)], 3, 0, true⟩ 0 = (⟨#[]⟩, 2) := rfl
theorem s11 : DskC.crash ⟨[F0, Z], [(0, F1)], 3, 0, true⟩ [] = ⟨[F0, Z], [], 3, -1, false⟩ := rfl
theorem s12 : DskK.rd ⟨[F0, Z], [], 3, -1, false⟩ 0 = (F0, 0) := by simp [DskK.rd, DskJ.dat, DskJ.datK]
end
theorem one_u8 (w : World) (v : Int) : Kd.C (Kd.int .u8) (w.alloc (.cells #[.int .u8 v] 5)) (some ⟨w.heap.size, 0, none⟩) 1 [v] := by
  refine ⟨rfl, by decide, fun _ => ⟨_, rfl, fun j p hp => ⟨[.int .u8 v], rfl, ?_, ?_⟩⟩⟩
  · obtain rfl : j = 0 := by
      have := (List.getElem?_eq_some_iff.1 hp).1
      simpa using this
    obtain rfl : v = p := by simpa using hp
    rfl
  · intro i u hu
    obtain rfl : j = 0 := by
      have := (List.getElem?_eq_some_iff.1 hp).1
      simpa using this
    have hi : i = 0 := by
      have := (List.getElem?_eq_some_iff.1 hu).1
      simpa using this
    subst hi
    obtain rfl : Value.int .u8 v = u := by simpa using hu
    exact (blk_cell (blk_new w _) 0)
end Go.Proofs.Ytbmhfmkfkdbmdaa.DskYF
end

section
/-
  wakes: its value is true.
-/
namespace Go.Proofs.Ytbmhfmkfkdbmdaa.DskY
open Go.RowKit Go.Proofs.YtbmhfmkfkdbmdaaW.PrintWords Go.Proofs.YtbmhfmkfkdbmdaaW.PrintLast Go.Proofs.YtbmhfmkfkdbmdaaW.PrintMore Go.Proofs.Ytbmhfmkfkdbmdaa.DskR Go.Proofs.Ytbmhfmkfkdbmdaa.DskQ Go.Proofs.Ytbmhfmkfkdbmdaa.DskX Go.Proofs.Ytbmhfmkfkdbmdaa.DskYF
set_option linter.unusedVariables false
set_option maxHeartbeats 8000000 in
set_option maxRecDepth 100000 in
theorem wakes_c (w : World) : Calls Try.prog 10 #[] w fun e w' => e = .returned (.bool true) ∧ Below w.heap.size w w' := by
  obtain ⟨F0, h0⟩ : ∃ F, F = DskP.fillB 0 := ⟨_, rfl⟩
  obtain ⟨F1, h1⟩ : ∃ F, F = DskP.fillB 1 := ⟨_, rfl⟩
  obtain ⟨F7, h7⟩ : ∃ F, F = DskP.fillB 7 := ⟨_, rfl⟩
  obtain ⟨Z, hz⟩ : ∃ Z, Z = F7.extract 0 64 ++ F0.extract 64 256 := ⟨_, rfl⟩
  have z0 : F0.size = 256 := by rw [h0]; exact DskP.fill_size 0
  have z1 : F1.size = 256 := by rw [h1]; exact DskP.fill_size 1
  have z7 : F7.size = 256 := by rw [h7]; exact DskP.fill_size 7
  have c0 : ∀ w, Calls Try.prog 14 #[.int .u8 0] w fun e w' => e = .returned (.string F0) ∧ Below w.heap.size w w' := fun w => by rw [h0]; exact DskP.fill_c 0 w
  have c1 : ∀ w, Calls Try.prog 14 #[.int .u8 1] w fun e w' => e = .returned (.string F1) ∧ Below w.heap.size w w' := fun w => by rw [h1]; exact DskP.fill_c 1 w
  have c7 : ∀ w, Calls Try.prog 14 #[.int .u8 7] w fun e w' => e = .returned (.string F7) ∧ Below w.heap.size w w' := fun w => by rw [h7]; exact DskP.fill_c 7 w
  have p0 : DskG.pg0 = F0 := by rw [h0]; exact pg0_fill
  have pz : DskU.tornB F0 F7 1 = Z := by rw [hz, h0, h7]; exact torn_fill
  have zz : Z.size = 256 := by rw [← pz]; exact DskC.torn_size F0 F7 z0 z7 1
  have ZZ := Aside0.mk zz
  have C0 := Aside0.mk c0
  have C1 := Aside0.mk c1
  have C7 := Aside0.mk c7
  have P0 := Aside0.mk p0
  have PZ := Aside0.mk pz
  have Z0 := Aside0.mk z0
  have Z1 := Aside0.mk z1
  have Z7 := Aside0.mk z7
  have HZ := Aside0.mk hz
  clear zz c0 c1 c7 p0 pz h0 h1 h7 z0 z1 z7 hz
  go_enter Try.func10, Try.ntmps10
  go_wp2_with (go_at_call 11; refine (new3 _).mono ?_; rintro e w1 ⟨D, rfl, hJ⟩; have HJ := Aside0.mk hJ; clear hJ)
  go_wp2_with (go_at_call 12; refine (j_grow HJ.out (by simp) (by simp) (by simp) 2 (s1 P0.out)).mono ?_; rintro e w2 ⟨rfl, hj⟩; have HJ2 := Aside0.mk hj; clear hj HJ)
  go_wp2_with (go_at_call 12; refine (j_grow HJ2.out (by simp) (by simp) (by simp) 4 s2).mono ?_; rintro e w3 ⟨rfl, hj⟩; have HJ3 := Aside0.mk hj; clear hj HJ2)
  go_wp2_with (go_at_call 14; refine (C7.out _).mono ?_; rintro e w4 ⟨rfl, hb⟩; have HJ4 := Aside0.mk (HJ3.out.below hb); clear hb HJ3)
  go_wp2_with (go_at_call 13; refine (j_write HJ4.out (by simp) (by simp) 1 F7 (s3 Z7.out)).mono ?_; rintro e w5 ⟨rfl, hj⟩; have HJ5 := Aside0.mk hj; clear hj HJ4)
  go_wp2_with (go_at_call 17; refine (j_read HJ5.out (by simp) 1 s4).mono ?_; rintro e w6 ⟨rfl, hj⟩; have HJ6 := Aside0.mk hj; clear hj HJ5)
  go_wp2_with (go_at_call 16; refine (j_crash (HJ6.out.below (below_alloc (Below.refl _ _) _)) (by simp) (by simp) (by simpa using Z0.out) (by simpa using Z7.out) (some ⟨_, 0, none⟩) 1 [1] (by simp) (one_u8 _ 1) (fun ad ha => .inr ⟨_, _, by obtain rfl := Option.some.inj ha; exact blk_new _ _⟩) (s5 PZ.out)).mono ?_; rintro e w7 ⟨rfl, hj⟩; have HJ7 := Aside0.mk hj; clear hj HJ6)
  go_wp2_with (go_at_call 17; refine (jn_read HJ7.out (by simp) 1 s6).mono ?_; rintro e w8 ⟨rfl, hj⟩; have HJ8 := Aside0.mk hj; clear hj HJ7)
  go_wp2_with (go_at_call 18; refine (j_fuse HJ8.out.toJ 1 s7).mono ?_; rintro e w9 ⟨rfl, hj⟩; have HJ9 := Aside0.mk hj; clear hj HJ8)
  go_wp2_with (go_at_call 14; refine (C1.out _).mono ?_; rintro e w10 ⟨rfl, hb⟩; have HJ10 := Aside0.mk (HJ9.out.below hb); clear hb HJ9)
  go_wp2_with (go_at_call 13; refine (j_write HJ10.out (by simp) (by simp) 0 F1 (s8 Z1.out)).mono ?_; rintro e w11 ⟨rfl, hj⟩; have HJ11 := Aside0.mk hj; clear hj HJ10)
  go_wp2_with (go_at_call 15; refine (j_sync HJ11.out (by simp) (by simp) (by simp) s9).mono ?_; rintro e w12 ⟨rfl, hj⟩; have HJ12 := Aside0.mk hj; clear hj HJ11)
  go_wp2_with (go_at_call 17; refine (j_read HJ12.out (by simp) 0 s10).mono ?_; rintro e w13 ⟨rfl, hj⟩; have HJ13 := Aside0.mk hj; clear hj HJ12)
  go_wp2_with (go_at_call 16; refine (j_crash HJ13.out (by simp) (by simp) (by simpa using ⟨Z0.out, ZZ.out⟩) (by simpa using Z1.out) none 0 [] (by simp) (Kd.C_nil _ _) (fun ad ha => nomatch ha) s11).mono ?_; rintro e w14 ⟨rfl, hj⟩; have HJ14 := Aside0.mk hj; clear hj HJ13)
  go_wp2_with (go_at_call 17; refine (jn_read HJ14.out (by simp) 0 s12).mono ?_; rintro e w15 ⟨rfl, hj⟩; have HJ15 := Aside0.mk hj; clear hj HJ14)
  have HC := Aside0.mk (show ∀ w', Cm.Calm w15 w' → JN w D ⟨[F0, Z], [], 3, -1, false⟩ w' from fun w' hc => HJ15.out.below hc.below)
  have HB := Aside0.mk HJ15.out.2
  have CL := Aside0.mk (show ∀ w', Cm.Calm w15 w' → Calls Try.prog 26 #[.pointer (some ⟨D, 0, none⟩)] w' fun e w2 => e = .returned (.int .i64 2) ∧ Below w'.heap.size w' w2 from fun w' hc => p_length (HC.out w' hc))
  have CM := Aside0.mk (show ∀ w', Cm.Calm w15 w' → Calls Try.prog 25 #[.pointer (some ⟨D, 0, none⟩)] w' fun e w2 => e = .returned (.int .i64 3) ∧ Below w'.heap.size w' w2 from fun w' hc => p_limit (HC.out w' hc))
  have CW := Aside0.mk (show ∀ w', Cm.Calm w15 w' → Calls Try.prog 19 #[.pointer (some ⟨D, 0, none⟩)] w' fun e w2 => e = .returned (.slice none 0 0) ∧ Below w'.heap.size w' w2 from fun w' hc => p_waiting (HC.out w' hc))
  have z7 := Z7.out
  have z0 := Z0.out
  have hz := HZ.out
  refine Cm.wp_region_calm_lit w15 (by kernel_rfl) (by kernel_rfl) (Cm.Calm.refl _) ?_
  simp only [List.append_eq, List.cons_append, List.nil_append]
  repeat (first | go_big_quiet_step (fail) | (refine wpQuiet_step (fun K hK => ?_); go_simp; first | (refine hK _ ?_; clear hK K) | (refine ⟨_, fun _ _ => rfl, hK _ ?_⟩; clear hK K) | (apply Exists.intro; refine ⟨fun _ hc_ => ?_, hK _ ?_⟩; (first | with_reducible exact Cm.Calm.call hc_ (C7.out _) | with_reducible exact Cm.Calm.call hc_ (C0.out _) | with_reducible exact Cm.Calm.call hc_ (CL.out _ hc_) | with_reducible exact Cm.Calm.call hc_ (CM.out _ hc_) | with_reducible exact Cm.Calm.call hc_ (CW.out _ hc_)); clear hK K)))
  refine wpQuiet_nil ?_
  intro w' hC
  go_wp2_with fail
  go_ret
  exact ⟨rfl, HB.out.trans (hC.below.mono HB.out.size)⟩
end Go.Proofs.Ytbmhfmkfkdbmdaa.DskY
end

section
/-
  DiskLast: what is read is what was written last.
-/
namespace Go.Proofs.Ytbmhfmkfkdbmdaa.Dsk2
open Go.RowKit Go.Proofs.YtbmhfmkfkdbmdaaW.PrintWords Go.Proofs.YtbmhfmkfkdbmdaaW.PrintLast Go.Proofs.YtbmhfmkfkdbmdaaW.PrintMore Go.Proofs.Ytbmhfmkfkdbmdaa.DskR Go.Proofs.Ytbmhfmkfkdbmdaa.DskQ Go.Proofs.Ytbmhfmkfkdbmdaa.DskX Go.Proofs.Ytbmhfmkfkdbmdaa.DskE
set_option linter.unusedVariables false
/-- What the loop keeps. -/
structure Inv (x : Dk) (i : Nat) (now : Nat → Int) : Prop where
  len : x.s.length = 3
  fuse : x.fuse = -1
  down : x.down = false
  q : x.q.length ≤ i
  at_ : ∀ p ∈ x.q, 0 ≤ p.1 ∧ p.1 < 3
  cur : cur x = [DskP.fillB (now 0), DskP.fillB (now 1), DskP.fillB (now 2)]
def put (now : Nat → Int) (m : Nat) (b : Int) (k : Nat) : Int := if k = m then b else now k
theorem inv_start : Inv ⟨[DskP.fillB 0, DskP.fillB 0, DskP.fillB 0], [], 5, -1, false⟩ 0 (fun _ => 0) := ⟨rfl, rfl, rfl, Nat.le_refl _, fun _ h => (nomatch h), rfl⟩
theorem Inv.write {x : Dk} {i : Nat} {now : Nat → Int} (h : Inv x i now) (m : Nat) (hm : m < 3) (b : Int) :
    ∃ x', DskV.wr x (m : Int) (DskP.fillB b) = (0, x') ∧ Inv x' (i + 1) (put now m b) := by
  refine ⟨{ x with q := x.q ++ [((m : Int), DskP.fillB b)] }, ?_, h.len, h.fuse, h.down, by simp; exact h.q, ?_, ?_⟩
  · unfold DskV.wr
    rw [if_neg (by rw [h.down]; decide), if_neg (by rw [DskP.fill_size]; omega), if_neg (by rw [h.len]; omega), if_neg (by rw [h.fuse]; decide), if_neg (by rw [h.fuse]; decide)]
  · intro p hp
    rcases List.mem_append.1 hp with hp | hp
    · exact h.at_ p hp
    · simp only [List.mem_cons, List.not_mem_nil, or_false] at hp
      subst hp
      exact ⟨by simp, by show (m : Int) < 3; omega⟩
  · show DskQ.putAll x.s (x.q ++ [((m : Int), DskP.fillB b)]) = _
    rw [put_snoc, show DskQ.putAll x.s x.q = _ from h.cur]
    match m, hm with
    | 0, _ => rfl
    | 1, _ => rfl
    | 2, _ => rfl
theorem Inv.miss {x : Dk} {i : Nat} {now : Nat → Int} (h : Inv x i now) (b : Int) : DskV.wr x 3 (DskP.fillB b) = (4, x) := by
  unfold DskV.wr
  rw [if_neg (by rw [h.down]; decide), if_neg (by rw [DskP.fill_size]; omega), if_pos (by rw [h.len]; omega)]
theorem Inv.more {x : Dk} {i : Nat} {now : Nat → Int} (h : Inv x i now) : Inv x (i + 1) now := ⟨h.len, h.fuse, h.down, Nat.le_succ_of_le h.q, h.at_, h.cur⟩
theorem Inv.sync {x : Dk} {i : Nat} {now : Nat → Int} (h : Inv x i now) : ∃ x', DskT.sy x = (0, x') ∧ Inv x' i now := by
  refine ⟨{ x with s := DskQ.putAll x.s x.q, q := [] }, ?_, (put_length _ _).trans h.len, h.fuse, h.down, Nat.zero_le _, fun _ hp => (nomatch hp), h.cur⟩
  unfold DskT.sy
  rw [if_neg (by rw [h.down]; decide), if_neg (by rw [h.fuse]; decide), if_neg (by rw [h.fuse]; decide)]
theorem Inv.read {x : Dk} {i : Nat} {now : Nat → Int} (h : Inv x i now) (p : Nat) (hp : p < 3) : DskK.rd x (p : Int) = (DskP.fillB (now p), 0) := by
  rw [rd_cur x h.down (fun r hr => (h.at_ r hr).1) (p : Int) (by simp) (by rw [h.len]; omega), h.cur]
  match p, hp with
  | 0, _ => rfl
  | 1, _ => rfl
  | 2, _ => rfl
theorem cells_put (now : Nat → Int) (m : Nat) (hm : m < 3) (b : Int) : (#[Value.int .u8 (now 0), Value.int .u8 (now 1), Value.int .u8 (now 2)]).setIfInBounds m (.int .u8 b) = #[Value.int .u8 (put now m b 0), Value.int .u8 (put now m b 1), Value.int .u8 (put now m b 2)] := by
  match m, hm with
  | 0, _ => rfl
  | 1, _ => rfl
  | 2, _ => rfl
theorem cell3 {w : World} {g : Nat} {t : TypeId} {now : Nat → Int} (h : w.heap[g]? = some (.cells #[Value.int .u8 (now 0), Value.int .u8 (now 1), Value.int .u8 (now 2)] t (0, 0))) (k : Nat) (hk : k < 3) : w.cell? ⟨g, k, none⟩ = some (.int .u8 (now k)) := by
  rw [blk_cell h k]
  match k, hk with
  | 0, _ => rfl
  | 1, _ => rfl
  | 2, _ => rfl
set_option maxHeartbeats 8000000 in
set_option maxRecDepth 100000 in
theorem walk (A : Option Addr) (n c : Nat) (z : List (Int × Int)) (y : Int) (w : World) (hz : z.length = n) (hc : 0 < n → ∃ b o, A = some ⟨b, o, none⟩ ∧ b < w.heap.size ∧ ∀ j p, z[j]? = some p → w.cell? ⟨b, o + j * 2, none⟩ = some (.int .u8 p.1) ∧ w.cell? ⟨b, o + j * 2 + 1, none⟩ = some (.int .u8 p.2)) (hr : ∀ p ∈ z, 0 ≤ p.1 ∧ p.1 < 256 ∧ 0 ≤ p.2 ∧ p.2 < 256) :
    Calls Try.prog 5 #[.slice A n c, .int .u32 y] w fun e w' => e = .returned (.bool true) ∧ Below w.heap.size w w' := by
  have HC := Aside0.mk hc
  have HR := Aside0.mk hr
  have HZ := Aside0.mk hz
  clear hc hr hz
  go_enter Try.func5, Try.ntmps5
  by_cases hn : n > 32
  · have q0 : decide ((n : Int) > 32) = true := decide_eq_true (by omega)
    clear hn
    go_wp2_with (go_at_call 10; refine (DskY.wakes_c _).mono ?_; rintro e w1 ⟨rfl, hb⟩; have HB := Aside0.mk hb; clear hb)
    go_ret
    exact ⟨rfl, HB.out⟩
  have q0 : decide ((n : Int) > 32) = false := decide_eq_false (by omega)
  have HN := Aside0.mk hn
  clear hn
  go_wp2_with (go_at_call 11; refine (new_c 5 (by decide) (by decide) _).mono ?_; rintro e w1 ⟨D, rfl, hJ⟩; have HJ := Aside0.mk hJ; clear hJ)
  go_wp2_with (go_at_call 12; refine (j_grow HJ.out (by simp) (by simp) (by simp) 3 (show _ = ((0 : Int), (⟨[DskP.fillB 0, DskP.fillB 0, DskP.fillB 0], [], 5, -1, false⟩ : Dk)) by rw [← DskYF.pg0_fill]; rfl)).mono ?_; rintro e w2 ⟨rfl, hj⟩; have HJ2 := Aside0.mk hj; clear hj HJ)
  have HG := Aside0.mk (show w2.heap.size = w2.heap.size from rfl)
  obtain ⟨g, hg⟩ : ∃ g, g = w2.heap.size := ⟨_, rfl⟩
  have HGE := Aside0.mk (show w.heap.size ≤ g by rw [hg]; exact HJ2.out.2.size)
  have HJ3 := Aside0.mk (HJ2.out.below (below_alloc (Below.refl _ _) (.cells #[.int .u8 0, .int .u8 0, .int .u8 0] 45)))
  have HB3 : Aside0 ((w2.alloc (.cells #[.int .u8 0, .int .u8 0, .int .u8 0] 45)).heap[g]? = some (.cells #[.int .u8 0, .int .u8 0, .int .u8 0] 45 (0, 0))) := Aside0.mk (by rw [hg]; exact blk_new _ _)
  rw [← hg]
  clear hg HG
  go_loopg [8] (n + 1) (fun gk v8 w' => ∃ (i : Nat) (x : Dk) (now : Nat → Int), v8 = .int .i64 (i : Int) ∧ Aside0 (gk + i = n + 1 ∧ i ≤ n) ∧ Aside0 (J w D x w') ∧ Aside0 (Inv x i now) ∧ Aside0 (w'.heap[g]? = some (.cells #[.int .u8 (now 0), .int .u8 (now 1), .int .u8 (now 2)] 45 (0, 0))))
  case atStart => exact ⟨0, _, fun _ => 0, rfl, ⟨rfl, Nat.zero_le _⟩, HJ3, ⟨inv_start⟩, HB3⟩
  case round =>
    clear HJ3 HB3 HJ2
    obtain ⟨i, x, now, rfl, HK, HJ, HI, HB⟩ := hrel
    by_cases hi : i < n
    · have q1 : (i < n) = True := eq_true hi
      cases gk with
      | zero => exact absurd HK.out (by omega)
      | succ k1_ =>
      obtain ⟨b, o, rfl, hb, hcc⟩ := HC.out (by omega)
      obtain ⟨⟨a1, a2⟩, hp⟩ : ∃ p, z[i]? = some p := ⟨_, List.getElem?_eq_getElem (by rw [HZ.out]; exact hi)⟩
      have r := HR.out _ (List.mem_of_getElem? hp)
      obtain ⟨e1, e2⟩ := hcc i _ hp
      have d1 := (HJ.out.2.cell (p := ⟨b, o + i * 2, none⟩) hb).trans e1
      have d2 := (HJ.out.2.cell (p := ⟨b, o + i * 2 + 1, none⟩) hb).trans e2
      simp only at d1 d2 r
      obtain ⟨m, hm, hm4⟩ : ∃ m : Nat, (wrap64 a1).tmod 4 = (m : Int) ∧ m < 4 := by
        have e : wrap64 a1 = a1 := by unfold wrap64; omega
        rw [e]
        exact ⟨(a1.tmod 4).toNat, by have := Int.tmod_nonneg 4 r.1; omega, by have := Int.tmod_lt_of_pos a1 (show (0 : Int) < 4 by decide); omega⟩
      have HI1 := Aside0.mk hi
      have E2 := Aside0.mk e2
      have HBB := Aside0.mk hb
      clear hi e1 e2 hcc r hb hp
      have HX := Aside0.mk (show x.q.length < 1000000 from by have := HI.out.q; have := HK.out.2; have := HN.out; omega)
      by_cases hbit : Go.bits BinOp.and IntKind.u32 (y / 2 ^ min (IntKind.u64.wrap (i : Int)).toNat 32) 1 = 1
      · have qb : (Go.bits BinOp.and IntKind.u32 (y / 2 ^ min (IntKind.u64.wrap (i : Int)).toNat 32) 1 = 1) = True := eq_true hbit
        clear hbit
        by_cases hm3 : m < 3
        · have qm : ((m : Int) < 3) = True := eq_true (by omega)
          have HM := Aside0.mk hm3
          obtain ⟨x6, hw, hi6⟩ := HI.out.write m hm3 a2
          have HW := Aside0.mk hw
          have HI6 := Aside0.mk hi6
          have HX6 := Aside0.mk (show x6.q.length < 1000000 from by have := hi6.q; have := HK.out.2; have := HN.out; omega)
          obtain ⟨x7, hs, hi7⟩ := HI6.out.sync
          have HS := Aside0.mk hs
          have HI7 := Aside0.mk hi7
          clear hs hi7
          clear hw hi6 hm3 hm4
          go_wp2_with (first | (go_at_call 14; refine (DskP.fill_c a2 _).mono ?_; rintro e w5 ⟨rfl, hb⟩; have HJ5 := Aside0.mk (HJ.out.below hb); have HB5 := Aside0.mk (blk_below HB.out hb); clear hb d1 d2) | (go_at_call 13; go_must (refine (k_write HJ5.out HX.out (by rw [HI.out.fuse]; decide) _ _ HW.out).mono ?_; rintro e w6 ⟨rfl, hj, hkp⟩; have HJ6 := Aside0.mk hj; have HB6 := Aside0.mk (hkp g _ _ _ (by decide) (by decide) (by decide) HB5.out); clear hj hkp; have d2 := (HJ6.out.2.cell (p := ⟨b, o + i * 2 + 1, none⟩) HBB.out).trans E2.out; (try simp only at d2); have cm := cell3 HB6.out m HM.out; have fm := blk_frozen HB6.out m)) | (go_at_call 15; go_must (refine (k_sync (J.far HJ6.out (by decide) (by decide) (by decide) HB6.out HGE.out m (.int .u8 a2)) HX6.out (fun r hr => ⟨(HI6.out.at_ r hr).1, by rw [HI6.out.len]; exact (HI6.out.at_ r hr).2⟩) (by rw [HI6.out.fuse]; decide) HS.out).mono ?_; rintro e w7 ⟨rfl, hj, hkp⟩; have HJ7 := Aside0.mk hj; have HB7 := Aside0.mk (hkp g _ _ _ (by decide) (by decide) (by decide) (blk_put HB6.out m (.int .u8 a2) (cells_put now m HM.out a2))); clear hj hkp)))
          obtain ⟨nw, hnw⟩ : ∃ nw, nw = put now m a2 := ⟨_, rfl⟩
          obtain ⟨wa, hwa⟩ : ∃ wa, wa = w7 := ⟨_, rfl⟩
          have HJa : Aside0 (J w D x7 wa) := Aside0.mk (by rw [hwa]; exact HJ7.out)
          have HBa : Aside0 (wa.heap[g]? = some (.cells #[.int .u8 (nw 0), .int .u8 (nw 1), .int .u8 (nw 2)] 45 (0, 0))) := Aside0.mk (by rw [hwa]; exact (by rw [hnw]; exact HB7.out))
          have HIa : Aside0 (Inv x7 (i + 1) nw) := Aside0.mk (by rw [hnw]; exact HI7.out)
          have HXa : Aside0 (x7.q.length < 1000000) := Aside0.mk (by have := HIa.out.q; have := HK.out.2; have := HN.out; omega)
          rw [← hwa]
          clear hwa hnw
          go_loopg [11] 4 (fun gk2 v11 w' => ∃ (p : Nat), v11 = .int .i64 (p : Int) ∧ Aside0 (gk2 + p = 4 ∧ p ≤ 3) ∧ Aside0 (J w D x7 w') ∧ Aside0 (w'.heap[g]? = some (.cells #[.int .u8 (nw 0), .int .u8 (nw 1), .int .u8 (nw 2)] 45 (0, 0))))
          case atStart => exact ⟨0, rfl, ⟨rfl, by omega⟩, HJa, HBa⟩
          case round =>
            clear HJa HBa
            obtain ⟨p, rfl, HK2, HJp, HBp⟩ := hrel
            by_cases hp : p < 3
            · have qp : ((p : Int) < 3) = True := eq_true (by omega)
              have HP := Aside0.mk hp
              have HRd := Aside0.mk (HIa.out.read p hp)
              obtain ⟨F, hF⟩ : ∃ F, F = DskP.fillB (nw p) := ⟨_, rfl⟩
              have CF := Aside0.mk (show ∀ w, Calls Try.prog 14 #[.int .u8 (nw p)] w fun e w' => e = .returned (.string F) ∧ Below w.heap.size w w' from fun w => by rw [hF]; exact DskP.fill_c _ w)
              rw [← hF] at HRd
              cases gk with
              | zero => exact absurd HK2.out (by omega)
              | succ k2_ =>
              clear hF hp
              go_wp2_with (first | (go_at_call 17; go_must (refine (k_read HJp.out HXa.out _ HRd.out).mono ?_; rintro e w8 ⟨rfl, hj, hkp⟩; have HJ8 := Aside0.mk hj; have HB8 := Aside0.mk (hkp g _ _ _ (by decide) (by decide) (by decide) HBp.out); have c8 := cell3 HB8.out p HP.out; clear hj hkp)) | (go_at_call 14; go_must (with_reducible refine (CF.out _).mono ?_; rintro e w9 ⟨rfl, hb⟩; have HJ9 := Aside0.mk (HJ8.out.below hb); have HB9 := Aside0.mk (blk_below HB8.out hb); clear hb)))
              go_roundg k2_
              case measure => omega
              case rel => exact ⟨p + 1, by first | rfl | (congr 1; have := HP.out; unfold wrap64; omega), ⟨by have := HK2.out; have := HP.out; omega⟩, HJ9, HB9⟩
            · have qp : ((p : Int) < 3) = False := eq_false (by omega)
              clear hp
              go_wp2_with fail
              go_roundg k1_
              case measure => omega
              case rel => exact ⟨i + 1, x7, nw, by first | rfl | (congr 1; have := HK.out; have := HN.out; unfold wrap64; omega), ⟨by have := HK.out; have := HI1.out; omega⟩, HJp, HIa, HBp⟩
        · have qm : ((m : Int) < 3) = False := eq_false (by omega)
          obtain rfl : m = 3 := by omega
          have HW := Aside0.mk (HI.out.miss a2)
          have HI6 := Aside0.mk HI.out.more
          obtain ⟨x7, hs, hi7⟩ := HI6.out.sync
          have HS := Aside0.mk hs
          have HI7 := Aside0.mk hi7
          clear hs hi7
          clear hm3 hm4
          go_wp2_with (first | (go_at_call 14; refine (DskP.fill_c a2 _).mono ?_; rintro e w5 ⟨rfl, hb⟩; have HJ5 := Aside0.mk (HJ.out.below hb); have HB5 := Aside0.mk (blk_below HB.out hb); clear hb d1 d2) | (go_at_call 13; go_must (refine (k_write HJ5.out HX.out (by rw [HI.out.fuse]; decide) _ _ HW.out).mono ?_; rintro e w6 ⟨rfl, hj, hkp⟩; have HJ6 := Aside0.mk hj; have HB6 := Aside0.mk (hkp g _ _ _ (by decide) (by decide) (by decide) HB5.out); clear hj hkp)) | (go_at_call 15; go_must (refine (k_sync HJ6.out HX.out (fun r hr => ⟨(HI6.out.at_ r hr).1, by rw [HI6.out.len]; exact (HI6.out.at_ r hr).2⟩) (by rw [HI6.out.fuse]; decide) HS.out).mono ?_; rintro e w7 ⟨rfl, hj, hkp⟩; have HJ7 := Aside0.mk hj; have HB7 := Aside0.mk (hkp g _ _ _ (by decide) (by decide) (by decide) HB6.out); clear hj hkp)))
          obtain ⟨nw, hnw⟩ : ∃ nw, nw = now := ⟨_, rfl⟩
          obtain ⟨wa, hwa⟩ : ∃ wa, wa = w7 := ⟨_, rfl⟩
          have HJa : Aside0 (J w D x7 wa) := Aside0.mk (by rw [hwa]; exact HJ7.out)
          have HBa : Aside0 (wa.heap[g]? = some (.cells #[.int .u8 (nw 0), .int .u8 (nw 1), .int .u8 (nw 2)] 45 (0, 0))) := Aside0.mk (by rw [hwa]; exact (by rw [hnw]; exact HB7.out))
          have HIa : Aside0 (Inv x7 (i + 1) nw) := Aside0.mk (by rw [hnw]; exact HI7.out)
          have HXa : Aside0 (x7.q.length < 1000000) := Aside0.mk (by have := HIa.out.q; have := HK.out.2; have := HN.out; omega)
          rw [← hwa]
          clear hwa hnw
          go_loopg [11] 4 (fun gk2 v11 w' => ∃ (p : Nat), v11 = .int .i64 (p : Int) ∧ Aside0 (gk2 + p = 4 ∧ p ≤ 3) ∧ Aside0 (J w D x7 w') ∧ Aside0 (w'.heap[g]? = some (.cells #[.int .u8 (nw 0), .int .u8 (nw 1), .int .u8 (nw 2)] 45 (0, 0))))
          case atStart => exact ⟨0, rfl, ⟨rfl, by omega⟩, HJa, HBa⟩
          case round =>
            clear HJa HBa
            obtain ⟨p, rfl, HK2, HJp, HBp⟩ := hrel
            by_cases hp : p < 3
            · have qp : ((p : Int) < 3) = True := eq_true (by omega)
              have HP := Aside0.mk hp
              have HRd := Aside0.mk (HIa.out.read p hp)
              obtain ⟨F, hF⟩ : ∃ F, F = DskP.fillB (nw p) := ⟨_, rfl⟩
              have CF := Aside0.mk (show ∀ w, Calls Try.prog 14 #[.int .u8 (nw p)] w fun e w' => e = .returned (.string F) ∧ Below w.heap.size w w' from fun w => by rw [hF]; exact DskP.fill_c _ w)
              rw [← hF] at HRd
              cases gk with
              | zero => exact absurd HK2.out (by omega)
              | succ k2_ =>
              clear hF hp
              go_wp2_with (first | (go_at_call 17; go_must (refine (k_read HJp.out HXa.out _ HRd.out).mono ?_; rintro e w8 ⟨rfl, hj, hkp⟩; have HJ8 := Aside0.mk hj; have HB8 := Aside0.mk (hkp g _ _ _ (by decide) (by decide) (by decide) HBp.out); have c8 := cell3 HB8.out p HP.out; clear hj hkp)) | (go_at_call 14; go_must (with_reducible refine (CF.out _).mono ?_; rintro e w9 ⟨rfl, hb⟩; have HJ9 := Aside0.mk (HJ8.out.below hb); have HB9 := Aside0.mk (blk_below HB8.out hb); clear hb)))
              go_roundg k2_
              case measure => omega
              case rel => exact ⟨p + 1, by first | rfl | (congr 1; have := HP.out; unfold wrap64; omega), ⟨by have := HK2.out; have := HP.out; omega⟩, HJ9, HB9⟩
            · have qp : ((p : Int) < 3) = False := eq_false (by omega)
              clear hp
              go_wp2_with fail
              go_roundg k1_
              case measure => omega
              case rel => exact ⟨i + 1, x7, nw, by first | rfl | (congr 1; have := HK.out; have := HN.out; unfold wrap64; omega), ⟨by have := HK.out; have := HI1.out; omega⟩, HJp, HIa, HBp⟩
      · have qb : (Go.bits BinOp.and IntKind.u32 (y / 2 ^ min (IntKind.u64.wrap (i : Int)).toNat 32) 1 = 1) = False := eq_false hbit
        clear hbit
        by_cases hm3 : m < 3
        · have qm : ((m : Int) < 3) = True := eq_true (by omega)
          have HM := Aside0.mk hm3
          obtain ⟨x6, hw, hi6⟩ := HI.out.write m hm3 a2
          have HW := Aside0.mk hw
          have HI6 := Aside0.mk hi6
          have HX6 := Aside0.mk (show x6.q.length < 1000000 from by have := hi6.q; have := HK.out.2; have := HN.out; omega)
          clear hw hi6 hm3 hm4
          go_wp2_with (first | (go_at_call 14; refine (DskP.fill_c a2 _).mono ?_; rintro e w5 ⟨rfl, hb⟩; have HJ5 := Aside0.mk (HJ.out.below hb); have HB5 := Aside0.mk (blk_below HB.out hb); clear hb d1 d2) | (go_at_call 13; go_must (refine (k_write HJ5.out HX.out (by rw [HI.out.fuse]; decide) _ _ HW.out).mono ?_; rintro e w6 ⟨rfl, hj, hkp⟩; have HJ6 := Aside0.mk hj; have HB6 := Aside0.mk (hkp g _ _ _ (by decide) (by decide) (by decide) HB5.out); clear hj hkp; have d2 := (HJ6.out.2.cell (p := ⟨b, o + i * 2 + 1, none⟩) HBB.out).trans E2.out; (try simp only at d2); have cm := cell3 HB6.out m HM.out; have fm := blk_frozen HB6.out m)))
          obtain ⟨nw, hnw⟩ : ∃ nw, nw = put now m a2 := ⟨_, rfl⟩
          obtain ⟨wa, hwa⟩ : ∃ wa, wa = w6.setCell ⟨g, m, none⟩ (.int .u8 a2) := ⟨_, rfl⟩
          have HJa : Aside0 (J w D x6 wa) := Aside0.mk (by rw [hwa]; exact (J.far HJ6.out (by decide) (by decide) (by decide) HB6.out HGE.out m (.int .u8 a2)))
          have HBa : Aside0 (wa.heap[g]? = some (.cells #[.int .u8 (nw 0), .int .u8 (nw 1), .int .u8 (nw 2)] 45 (0, 0))) := Aside0.mk (by rw [hwa]; exact (by rw [hnw]; exact (blk_put HB6.out m (.int .u8 a2) (cells_put now m HM.out a2))))
          have HIa : Aside0 (Inv x6 (i + 1) nw) := Aside0.mk (by rw [hnw]; exact HI6.out)
          have HXa : Aside0 (x6.q.length < 1000000) := Aside0.mk (by have := HIa.out.q; have := HK.out.2; have := HN.out; omega)
          rw [← hwa]
          clear hwa hnw
          go_loopg [11] 4 (fun gk2 v11 w' => ∃ (p : Nat), v11 = .int .i64 (p : Int) ∧ Aside0 (gk2 + p = 4 ∧ p ≤ 3) ∧ Aside0 (J w D x6 w') ∧ Aside0 (w'.heap[g]? = some (.cells #[.int .u8 (nw 0), .int .u8 (nw 1), .int .u8 (nw 2)] 45 (0, 0))))
          case atStart => exact ⟨0, rfl, ⟨rfl, by omega⟩, HJa, HBa⟩
          case round =>
            clear HJa HBa
            obtain ⟨p, rfl, HK2, HJp, HBp⟩ := hrel
            by_cases hp : p < 3
            · have qp : ((p : Int) < 3) = True := eq_true (by omega)
              have HP := Aside0.mk hp
              have HRd := Aside0.mk (HIa.out.read p hp)
              obtain ⟨F, hF⟩ : ∃ F, F = DskP.fillB (nw p) := ⟨_, rfl⟩
              have CF := Aside0.mk (show ∀ w, Calls Try.prog 14 #[.int .u8 (nw p)] w fun e w' => e = .returned (.string F) ∧ Below w.heap.size w w' from fun w => by rw [hF]; exact DskP.fill_c _ w)
              rw [← hF] at HRd
              cases gk with
              | zero => exact absurd HK2.out (by omega)
              | succ k2_ =>
              clear hF hp
              go_wp2_with (first | (go_at_call 17; go_must (refine (k_read HJp.out HXa.out _ HRd.out).mono ?_; rintro e w8 ⟨rfl, hj, hkp⟩; have HJ8 := Aside0.mk hj; have HB8 := Aside0.mk (hkp g _ _ _ (by decide) (by decide) (by decide) HBp.out); have c8 := cell3 HB8.out p HP.out; clear hj hkp)) | (go_at_call 14; go_must (with_reducible refine (CF.out _).mono ?_; rintro e w9 ⟨rfl, hb⟩; have HJ9 := Aside0.mk (HJ8.out.below hb); have HB9 := Aside0.mk (blk_below HB8.out hb); clear hb)))
              go_roundg k2_
              case measure => omega
              case rel => exact ⟨p + 1, by first | rfl | (congr 1; have := HP.out; unfold wrap64; omega), ⟨by have := HK2.out; have := HP.out; omega⟩, HJ9, HB9⟩
            · have qp : ((p : Int) < 3) = False := eq_false (by omega)
              clear hp
              go_wp2_with fail
              go_roundg k1_
              case measure => omega
              case rel => exact ⟨i + 1, x6, nw, by first | rfl | (congr 1; have := HK.out; have := HN.out; unfold wrap64; omega), ⟨by have := HK.out; have := HI1.out; omega⟩, HJp, HIa, HBp⟩
        · have qm : ((m : Int) < 3) = False := eq_false (by omega)
          obtain rfl : m = 3 := by omega
          have HW := Aside0.mk (HI.out.miss a2)
          have HI6 := Aside0.mk HI.out.more
          clear hm3 hm4
          go_wp2_with (first | (go_at_call 14; refine (DskP.fill_c a2 _).mono ?_; rintro e w5 ⟨rfl, hb⟩; have HJ5 := Aside0.mk (HJ.out.below hb); have HB5 := Aside0.mk (blk_below HB.out hb); clear hb d1 d2) | (go_at_call 13; go_must (refine (k_write HJ5.out HX.out (by rw [HI.out.fuse]; decide) _ _ HW.out).mono ?_; rintro e w6 ⟨rfl, hj, hkp⟩; have HJ6 := Aside0.mk hj; have HB6 := Aside0.mk (hkp g _ _ _ (by decide) (by decide) (by decide) HB5.out); clear hj hkp)))
          obtain ⟨nw, hnw⟩ : ∃ nw, nw = now := ⟨_, rfl⟩
          obtain ⟨wa, hwa⟩ : ∃ wa, wa = w6 := ⟨_, rfl⟩
          have HJa : Aside0 (J w D x wa) := Aside0.mk (by rw [hwa]; exact HJ6.out)
          have HBa : Aside0 (wa.heap[g]? = some (.cells #[.int .u8 (nw 0), .int .u8 (nw 1), .int .u8 (nw 2)] 45 (0, 0))) := Aside0.mk (by rw [hwa]; exact (by rw [hnw]; exact HB6.out))
          have HIa : Aside0 (Inv x (i + 1) nw) := Aside0.mk (by rw [hnw]; exact HI6.out)
          have HXa : Aside0 (x.q.length < 1000000) := Aside0.mk (by have := HIa.out.q; have := HK.out.2; have := HN.out; omega)
          rw [← hwa]
          clear hwa hnw
          go_loopg [11] 4 (fun gk2 v11 w' => ∃ (p : Nat), v11 = .int .i64 (p : Int) ∧ Aside0 (gk2 + p = 4 ∧ p ≤ 3) ∧ Aside0 (J w D x w') ∧ Aside0 (w'.heap[g]? = some (.cells #[.int .u8 (nw 0), .int .u8 (nw 1), .int .u8 (nw 2)] 45 (0, 0))))
          case atStart => exact ⟨0, rfl, ⟨rfl, by omega⟩, HJa, HBa⟩
          case round =>
            clear HJa HBa
            obtain ⟨p, rfl, HK2, HJp, HBp⟩ := hrel
            by_cases hp : p < 3
            · have qp : ((p : Int) < 3) = True := eq_true (by omega)
              have HP := Aside0.mk hp
              have HRd := Aside0.mk (HIa.out.read p hp)
              obtain ⟨F, hF⟩ : ∃ F, F = DskP.fillB (nw p) := ⟨_, rfl⟩
              have CF := Aside0.mk (show ∀ w, Calls Try.prog 14 #[.int .u8 (nw p)] w fun e w' => e = .returned (.string F) ∧ Below w.heap.size w w' from fun w => by rw [hF]; exact DskP.fill_c _ w)
              rw [← hF] at HRd
              cases gk with
              | zero => exact absurd HK2.out (by omega)
              | succ k2_ =>
              clear hF hp
              go_wp2_with (first | (go_at_call 17; go_must (refine (k_read HJp.out HXa.out _ HRd.out).mono ?_; rintro e w8 ⟨rfl, hj, hkp⟩; have HJ8 := Aside0.mk hj; have HB8 := Aside0.mk (hkp g _ _ _ (by decide) (by decide) (by decide) HBp.out); have c8 := cell3 HB8.out p HP.out; clear hj hkp)) | (go_at_call 14; go_must (with_reducible refine (CF.out _).mono ?_; rintro e w9 ⟨rfl, hb⟩; have HJ9 := Aside0.mk (HJ8.out.below hb); have HB9 := Aside0.mk (blk_below HB8.out hb); clear hb)))
              go_roundg k2_
              case measure => omega
              case rel => exact ⟨p + 1, by first | rfl | (congr 1; have := HP.out; unfold wrap64; omega), ⟨by have := HK2.out; have := HP.out; omega⟩, HJ9, HB9⟩
            · have qp : ((p : Int) < 3) = False := eq_false (by omega)
              clear hp
              go_wp2_with fail
              go_roundg k1_
              case measure => omega
              case rel => exact ⟨i + 1, x, nw, by first | rfl | (congr 1; have := HK.out; have := HN.out; unfold wrap64; omega), ⟨by have := HK.out; have := HI1.out; omega⟩, HJp, HIa, HBp⟩
    · have q1 : (i < n) = False := eq_false hi
      clear hi
      go_wp2_with (go_at_call 10; refine (DskY.wakes_c _).mono ?_; rintro e w10 ⟨rfl, hb⟩; have HE := Aside0.mk (HJ.out.2.trans (hb.mono HJ.out.2.size)); clear hb)
      go_ret
      exact ⟨rfl, HE.out⟩
end Go.Proofs.Ytbmhfmkfkdbmdaa.Dsk2
end

section
/-
  A slice of pairs of bytes as a row hands it: opened.
-/
namespace Go.Proofs.Ytbmhfmkfkdbmdaa.DskOq
open Go.ChangeShapes Go.WideShapes Go.ChangeAt Go.RowKit Go.Proofs.YtbmhfmkfkdbmdaaW.PrintWords Go.Proofs.YtbmhfmkfkdbmdaaW.PrintMore
set_option linter.unusedVariables false
theorem u8_range {z : Int} (h : (Lit.int .u8 z).wf = true) : 0 ≤ z ∧ z < 256 := by
  have hm : IntKind.u8.min ≤ z ∧ z ≤ IntKind.u8.max := by simpa [Lit.wf] using h
  have h0 : 0 ≤ z := hm.1
  have h1 : z ≤ 255 := hm.2
  omega
theorem cell_lt {w : World} {b o : Nat} {v : Value} (h : w.cell? ⟨b, o, none⟩ = some v) : b < w.heap.size := by
  rcases Nat.lt_or_ge b w.heap.size with h' | h'
  · exact h'
  · have : w.heap[b]? = none := Array.getElem?_eq_none h'
    simp [World.cell?, this] at h
set_option maxRecDepth 100000 in
theorem open_pairs {H : Type} {enc : TypeId × Value → H} {W : World} {base : Nat} {sp : Nat → Bool} {held : Bool} {a : Option Addr} {len cap : Nat} {d : DataW H} {p : List MemPlace} {ts : List TypeId} {ds : List (DataW H)} {j : Nat}
    (hsz : (DataW.weightsEach Try.prog ts ds).all (· ≤ reachBytes) = true) (ht : ts[j]? = some 22) (hd : ds[j]? = some d)
    (h : DataW.Trod enc Try.prog W base sp held 22 (.slice a len cap) d p) :
    ∃ z : List (Int × Int), z.length = len ∧ len ≤ cap ∧ (0 < len → ∃ b o, a = some ⟨b, o, none⟩ ∧ b < W.heap.size ∧ ∀ j p, z[j]? = some p → W.cell? ⟨b, o + j * 2, none⟩ = some (.int .u8 p.1) ∧ W.cell? ⟨b, o + j * 2 + 1, none⟩ = some (.int .u8 p.2)) ∧ ∀ p ∈ z, 0 ≤ p.1 ∧ p.1 < 256 ∧ 0 ≤ p.2 ∧ p.2 < 256 := by
  have hu : Try.prog.underlying 22 = some (.slice 32) := Try.underlying22
  have ce : Try.prog.cellsOf 32 = 2 := by kernel_rfl
  have c1 : Try.prog.cellsOf 5 = 1 := by kernel_rfl
  obtain ⟨fuel, hf⟩ := h
  rcases Go.Deep.open_slice hu hf with ⟨hcs, _⟩ | ⟨x, l, c, m, n, D, Pl, hcs, hb, hl, hm, hmm, hx, hread⟩
  · simp [Value.cells] at hcs
    obtain ⟨rfl, rfl, rfl⟩ := hcs
    exact ⟨[], rfl, Nat.le_refl _, fun h => absurd h (by decide), fun _ h => nomatch h⟩
  · simp [Value.cells] at hcs
    obtain ⟨rfl, rfl, rfl⟩ := hcs
    have hlm : len ≤ m := by rw [hmm]; split <;> omega
    have each : ∀ i, i < len → ∃ r : Int × Int, (W.cell? (x.add (i * 2)) = some (.int .u8 r.1) ∧ W.cell? (x.add (i * 2 + 1)) = some (.int .u8 r.2)) ∧ 0 ≤ r.1 ∧ r.1 < 256 ∧ 0 ≤ r.2 ∧ r.2 < 256 := by
      intro i hi
      obtain ⟨cs', h1, h2⟩ := hread i (by omega)
      rw [ce] at h1
      obtain ⟨_, hlen, hcell⟩ := World.cells?_some h1
      obtain ⟨xs, m', _, _, _, hxs, hel⟩ := DataW.trod_array Try.underlying32 h2
      match cs', hlen, xs, hxs with
      | [v0, v1], _, [y0, y1], _ =>
        have e0 := hel 0 (by decide)
        have e1 := hel 1 (by decide)
        rw [c1] at e0 e1
        obtain ⟨z0, q0, _, w0⟩ := DataW.trod_int Try.underlying5 e0
        obtain ⟨z1, q1, _, w1⟩ := DataW.trod_int Try.underlying5 e1
        have p0 : [v0] = [Value.int .u8 z0] := q0
        have p1 : [v1] = [Value.int .u8 z1] := q1
        simp only [List.cons.injEq, and_true] at p0 p1
        subst p0 p1
        have k0 := hcell 0 (by decide)
        have k1 := hcell 1 (by decide)
        rw [Go.Deep.add_add] at k0 k1
        have r0 := u8_range w0
        have r1 := u8_range w1
        exact ⟨(z0, z1), ⟨k0, k1⟩, r0.1, r0.2, r1.1, r1.2⟩
    have : Inhabited (Int × Int) := ⟨(0, 0)⟩
    obtain ⟨f, hf'⟩ := Go.Deep.choose_lt each
    refine ⟨(List.range len).map f, by simp, hl, fun h0 => ?_, fun p hp => ?_⟩
    · obtain ⟨b, off, spot⟩ := x
      have hspot : spot = none := by simpa [Addr.add] using World.cell?_spot (hf' 0 h0).1.1
      subst hspot
      refine ⟨b, off, rfl, ?_, fun j p hp => ?_⟩
      · have := (hf' 0 h0).1.1
        rw [Go.WideShapes.add_plain] at this
        exact cell_lt this
      · have hj : j < len := by
          rcases Nat.lt_or_ge j len with h | h
          · exact h
          · rw [List.getElem?_eq_none (by simpa using h)] at hp; cases hp
        simp [hj] at hp
        subst hp
        have := (hf' j hj).1
        rw [Go.WideShapes.add_plain, Go.WideShapes.add_plain] at this
        exact this
    · simp only [List.mem_map, List.mem_range] at hp
      obtain ⟨i, hi, rfl⟩ := hp
      exact (hf' i hi).2
end Go.Proofs.Ytbmhfmkfkdbmdaa.DskOq
end

section
/-
  DiskLast: for the row.
-/
namespace Go.Proofs.Ytbmhfmkfkdbmdaa.Dsk2
open Go.RowKit
theorem walkF (A : Option Addr) (n c : Nat) (z : List (Int × Int)) (y : Int) (w : World) (hz : z.length = n) (hnc : n ≤ c) (hc : 0 < n → ∃ b o, A = some ⟨b, o, none⟩ ∧ b < w.heap.size ∧ ∀ j p, z[j]? = some p → w.cell? ⟨b, o + j * 2, none⟩ = some (.int .u8 p.1) ∧ w.cell? ⟨b, o + j * 2 + 1, none⟩ = some (.int .u8 p.2)) (hr : ∀ p ∈ z, 0 ≤ p.1 ∧ p.1 < 256 ∧ 0 ≤ p.2 ∧ p.2 < 256) (hy : (Lit.int .u32 y).wf = true) :
    Calls Try.prog 5 #[.slice A n c, .int .u32 y] w fun e w' => e = .returned (.bool true) ∧ Below w.heap.size w w' := walk A n c z y w hz hc hr
end Go.Proofs.Ytbmhfmkfkdbmdaa.Dsk2
end
