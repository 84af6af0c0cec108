import Derived.Test.YtbmhfmkfkdbmdaaDskP
import Derived.Test.YtbmhfmkfkdbmdaaDskQ
import Derived.Deep.DeepMust
import Derived.Test.YtbmhfmkfkdbmdaaProg
import Derived.Test.YtbmhfmkfkdbmdaaCalm
import Derived.OpenShut
import Derived.ProofKit
import Derived.Deep.Strs
import Derived.Lib.SmallJoins
import Derived.ChangeOld
import Derived.SizedLaws
section
/-
  The disk's methods, one line each: a disk that stands above a world.
-/
namespace Go.Proofs.Ytbmhfmkfkdbmdaa.DskX
open Go.RowKit Go.Proofs.YtbmhfmkfkdbmdaaW.PrintWords Go.Proofs.YtbmhfmkfkdbmdaaW.PrintLast Go.Proofs.YtbmhfmkfkdbmdaaW.PrintMore Go.Proofs.Ytbmhfmkfkdbmdaa.DskR Go.Proofs.Ytbmhfmkfkdbmdaa.DskQ
set_option linter.unusedVariables false
/-- A disk that was made above W, and nothing below turned. -/
def J (W : World) (D : Nat) (x : Dk) (w : World) : Prop := (∃ vs vq, IsD w W.heap.size D vs vq x) ∧ Below W.heap.size W w
/-- .. where nothing waits in no row at all. -/
def JN (W : World) (D : Nat) (x : Dk) (w : World) : Prop := (∃ vs, IsD w W.heap.size D vs (.slice none 0 0) x) ∧ Below W.heap.size W w
section
variable {W w : World} {D : Nat} {x x' : Dk}
theorem JN.toJ (h : JN W D x w) : J W D x w := ⟨let ⟨vs, hd⟩ := h.1; ⟨vs, _, hd⟩, h.2⟩
theorem J.below (h : J W D x w) {w' : World} (hb : Below w.heap.size w w') : J W D x w' :=
  ⟨let ⟨vs, vq, hd⟩ := h.1; ⟨vs, vq, hd.below hb⟩, below_step h.2 hb⟩
theorem JN.below (h : JN W D x w) {w' : World} (hb : Below w.heap.size w w') : JN W D x w' :=
  ⟨let ⟨vs, hd⟩ := h.1; ⟨vs, hd.below hb⟩, below_step h.2 hb⟩
theorem J.of_post {vs vq : Value} (hd : IsD w W.heap.size D vs vq x) (hb : Below W.heap.size W w) {w' : World} (h : Post w W.heap.size D vs vq x' w') : J W D x' w' := by
  obtain ⟨vs', vq', h1, h2, _⟩ := h
  exact ⟨⟨vs', vq', h1⟩, hb.trans (h2.below hb.size (fun k hk => hd.own_ge hk))⟩
theorem new3 (W : World) : Calls Try.prog 11 #[.int .i64 3] W fun e w' => ∃ D, e = .returned (.tuple #[.pointer (some ⟨D, 0, none⟩), .bool true]) ∧ J W D ⟨[], [], 3, -1, false⟩ w' := by
  refine (DskF.new_c 3 W).mono ?_
  rintro e w' ⟨hb, h⟩
  rw [if_pos (by decide)] at h
  obtain ⟨D, vs, rfl, hd⟩ := h
  exact ⟨D, rfl, ⟨vs, _, hd⟩, hb⟩
theorem j_write (h : J W D x w) (hq : x.q.length < 1000000) (hu : x.fuse < 9223372036854775808) (at_ : Int) (s : ByteArray) {r : Int} (e : DskV.wr x at_ s = (r, x')) :
    Calls Try.prog 13 #[.pointer (some ⟨D, 0, none⟩), .int .i64 at_, .string s] w fun e w' => e = .returned (.int .i64 r) ∧ J W D x' w' := by
  obtain ⟨⟨vs, vq, hd⟩, hb⟩ := h
  refine (DskV.write_c hd hb.size hq hu at_ s).mono ?_
  rintro e' w' ⟨rfl, hp⟩
  rw [e] at hp ⊢
  exact ⟨rfl, J.of_post hd hb hp⟩
theorem j_sync (h : J W D x w) (hq : x.q.length < 1000000) (hg : ∀ p ∈ x.q, 0 ≤ p.1 ∧ p.1 < x.s.length) (hu : x.fuse < 9223372036854775808) {r : Int} (e : DskT.sy x = (r, x')) :
    Calls Try.prog 15 #[.pointer (some ⟨D, 0, none⟩)] w fun e w' => e = .returned (.int .i64 r) ∧ J W D x' w' := by
  obtain ⟨⟨vs, vq, hd⟩, hb⟩ := h
  refine (DskT.sync_c hd hb.size hq hg hu).mono ?_
  rintro e' w' ⟨rfl, hp⟩
  rw [e] at hp ⊢
  exact ⟨rfl, J.of_post hd hb hp⟩
theorem j_grow (h : J W D x w) (hx : x.s.length < 1000000) (hc : x.cap < 1000000) (hu : x.fuse < 9223372036854775808) (n : Int) {r : Int} (e : DskH.gr x n = (r, x')) :
    Calls Try.prog 12 #[.pointer (some ⟨D, 0, none⟩), .int .i64 n] w fun e w' => e = .returned (.int .i64 r) ∧ J W D x' w' := by
  obtain ⟨⟨vs, vq, hd⟩, hb⟩ := h
  refine (DskH.grow_c hd hb.size hx hc hu n).mono ?_
  rintro e' w' ⟨rfl, hp⟩
  rw [e] at hp ⊢
  exact ⟨rfl, J.of_post hd hb hp⟩
theorem j_fuse (h : J W D x w) (n : Int) (e : ({ x with fuse := if n < -1 then -1 else n } : Dk) = x') :
    Calls Try.prog 18 #[.pointer (some ⟨D, 0, none⟩), .int .i64 n] w fun e w' => e = .returned (.tuple #[]) ∧ J W D x' w' := by
  obtain ⟨⟨vs, vq, hd⟩, hb⟩ := h
  refine (DskM.fuse_c hd n).mono ?_
  rintro e' w' ⟨rfl, hp⟩
  rw [e] at hp
  exact ⟨rfl, J.of_post hd hb hp⟩
theorem j_read (h : J W D x w) (hq : x.q.length < 1000000) (at_ : Int) {s : ByteArray} {r : Int} (e : DskK.rd x at_ = (s, r)) :
    Calls Try.prog 17 #[.pointer (some ⟨D, 0, none⟩), .int .i64 at_] w fun e w' => e = .returned (.tuple #[.string s, .int .i64 r]) ∧ J W D x w' := by
  have hJ := h
  obtain ⟨⟨vs, vq, hd⟩, hb⟩ := h
  refine (DskK.read_c hd hq at_).mono ?_
  rintro e' w' ⟨rfl, hp⟩
  rw [e]
  exact ⟨rfl, hJ.below hp⟩
theorem jn_read (h : JN W D x w) (hq : x.q.length < 1000000) (at_ : Int) {s : ByteArray} {r : Int} (e : DskK.rd x at_ = (s, r)) :
    Calls Try.prog 17 #[.pointer (some ⟨D, 0, none⟩), .int .i64 at_] w fun e w' => e = .returned (.tuple #[.string s, .int .i64 r]) ∧ JN W D x w' := by
  have hJ := h
  obtain ⟨⟨vs, hd⟩, hb⟩ := h
  refine (DskK.read_c hd hq at_).mono ?_
  rintro e' w' ⟨rfl, hp⟩
  rw [e]
  exact ⟨rfl, hJ.below hp⟩
/-- The choice lies apart: below W, or not among the disk's blocks. -/
theorem j_crash (h : J W D x w) (hq : x.q.length < 1000000) (hg : ∀ p ∈ x.q, 0 ≤ p.1 ∧ p.1 < x.s.length) (hs6 : ∀ p ∈ x.s, p.size = 256) (hq6 : ∀ p ∈ x.q, p.2.size = 256) (CA : Option Addr) (cc : Nat) (l : List Int) (hl : ∀ c ∈ l, 0 ≤ c ∧ c < 256) (hr : Kd.C (Kd.int .u8) w CA l.length l)
    (hsep : ∀ ad, CA = some ad → ad.block < W.heap.size ∨ ∃ cs fz, w.heap[ad.block]? = some (.cells cs 5 fz)) (e : DskC.crash x l = x') :
    Calls Try.prog 16 #[.pointer (some ⟨D, 0, none⟩), .slice CA l.length cc] w fun e w' => e = .returned (.tuple #[]) ∧ JN W D x' w' := by
  obtain ⟨⟨vs, vq, hd⟩, hb⟩ := h
  refine (DskC.crash_c hd hq hg hs6 hq6 CA cc l hl hr (fun ad ha => ?_)).mono ?_
  · rcases hsep ad ha with h1 | ⟨cs, fz, h1⟩
    · exact ⟨fun hk => Nat.not_lt.2 (hd.own_ge hk) h1, Nat.lt_of_lt_of_le h1 hb.size⟩
    · refine ⟨fun hk => ?_, blk_lt h1⟩
      rcases hk with hk | hk | hk
      · rw [hk, hd.blk] at h1; simp at h1
      · exact DskW.ne_own hd.rs h1 (by decide) hk.symm
      · exact DskW.ne_own hd.rq h1 (by decide) hk.symm
  · rintro e' w' ⟨rfl, vs', h1, h2, _⟩
    rw [e] at h1
    exact ⟨rfl, ⟨vs', h1⟩, hb.trans (h2.below hb.size (fun k hk => hd.own_ge hk))⟩
theorem p_length (h : JN W D x w) : Calls Try.prog 26 #[.pointer (some ⟨D, 0, none⟩)] w fun e w' => e = .returned (.int .i64 (x.s.length : Int)) ∧ Below w.heap.size w w' := by
  obtain ⟨⟨vs, hd⟩, hb⟩ := h
  obtain ⟨A, c, e⟩ := DskV.form hd.rs
  exact DskM.length_c hd e
theorem p_limit (h : JN W D x w) : Calls Try.prog 25 #[.pointer (some ⟨D, 0, none⟩)] w fun e w' => e = .returned (.int .i64 x.cap) ∧ Below w.heap.size w w' := by
  obtain ⟨⟨vs, hd⟩, hb⟩ := h
  exact DskM.limit_c hd
theorem p_waiting (h : JN W D x w) : Calls Try.prog 19 #[.pointer (some ⟨D, 0, none⟩)] w fun e w' => e = .returned (.slice none 0 0) ∧ Below w.heap.size w w' := by
  obtain ⟨⟨vs, hd⟩, hb⟩ := h
  exact DskP.waiting_none hd
end
end Go.Proofs.Ytbmhfmkfkdbmdaa.DskX
end

section
/-
  slices.Clone of what waits; Waiting.
-/
namespace Go.Proofs.Ytbmhfmkfkdbmdaa.DskZ
open Go.RowKit Go.Proofs.YtbmhfmkfkdbmdaaW.PrintWords Go.Proofs.YtbmhfmkfkdbmdaaW.PrintLast Go.Proofs.YtbmhfmkfkdbmdaaW.PrintMore Go.Proofs.Ytbmhfmkfkdbmdaa.DskR
set_option linter.unusedVariables false
theorem run_equalIn_slice_nil {P : Program} (w : World) (d : Nat) (t e : TypeId) (a : Option Addr) (l c : Nat) (h : P.underlying t = some (.slice e)) : (Op.equalIn (d + 1) t (.slice a l c) (.slice none 0 0)).run P w = .ok a.isNone w := by
  cases a <;> simp [Op.equalIn, run_underlying h]
theorem run_equal_slice_nil {P : Program} (w : World) (t e : TypeId) (a : Option Addr) (l c : Nat) (h : P.underlying t = some (.slice e)) : (Op.equal t (.slice a l c) (.slice none 0 0)).run P w = .ok a.isNone w := run_equalIn_slice_nil w 9999 t e a l c h
theorem run_eql_slice_nil {P : Program} (w : World) (t e : TypeId) (a : Option Addr) (l c : Nat) (h : P.underlying t = some (.slice e)) : (binOp .eql t (.slice a l c) (.slice none 0 0)).run P w = .ok (.bool a.isNone) w := by
  simp [binOp, run_equal_slice_nil w t e a l c h]
theorem qC_cell (l : List (Int × ByteArray)) : ∀ u ∈ qC l, u.oneCell' = true := by
  intro u hu
  unfold qC at hu
  rw [List.mem_flatMap] at hu
  obtain ⟨p, _, hp⟩ := hu
  simp only [List.mem_cons, List.not_mem_nil, or_false] at hp
  rcases hp with rfl | rfl <;> rfl
section
variable {w : World} {B D : Nat} {vs vq : Value} {x : Dk}
set_option maxRecDepth 100000 in
set_option maxHeartbeats 2000000 in
theorem clone_some {g n c : Nat} {l : List (Int × ByteArray)} (hr : w.ownsRow B 76 2 (.slice (some ⟨g, 0, none⟩) n c) n (qC l)) (hB : B ≤ w.heap.size) (hn : n < 1000000) (hl : l.length = n) :
    Calls Try.prog 46 #[.slice (some ⟨g, 0, none⟩) n c] w fun e w' => ∃ v, e = .returned v ∧ w'.ownsRow w.heap.size 76 2 v n (qC l) ∧ Below w.heap.size w w' := by
  obtain ⟨i0, hi, hi0, hi1, hi2⟩ := info_parts (show (Try.prog.info? 76).map (fun i => (i.zero, i.size, i.bytes)) = some (some (.agg #[.int .i64 0, .string (⟨#[]⟩ : ByteArray)]), 2, 24) by kernel_rfl)
  have hq := run_eql_slice_nil (P := Try.prog) w 41 76 (some ⟨g, 0, none⟩) n c Try.underlying41
  simp only [Option.isNone_some] at hq
  have hc := hr.cells (g := g) rfl
  have hgl : g < w.heap.size := (hr.lt g rfl).2
  have HR := Aside0.mk hr
  have HC := Aside0.mk hc
  clear hr hc
  go_enter Try.func46, Try.ntmps46
  have H1 := Aside0.mk (show ((w.alloc (.cells #[] 76)).ownsRow w.heap.size 76 2 (.slice (some ⟨w.heap.size, 0, none⟩) 0 0) 0 []) from ⟨rfl, .inr ⟨_, 0, #[], rfl, Nat.le_refl _, blk_new _ _, by omega, by decide, rfl, rfl⟩⟩)
  have H2 := Aside0.mk (show ∀ j u, (qC l)[j]? = some u → (w.alloc (.cells #[] 76)).cell? ((⟨g, 0, none⟩ : Addr).add j) = some u from fun j u hu => ((below_alloc (Below.refl w.heap.size w) _).cell (p := (⟨g, 0, none⟩ : Addr).add j) (by unfold Addr.add; split <;> exact hgl)).trans (HC.out j u hu))
  have H3 := Aside0.mk (show w.heap.size ≤ (w.alloc (.cells #[] 76)).heap.size by simp)
  have H4 := Aside0.mk (qC_cell l)
  have H5 := Aside0.mk (below_alloc (Below.refl w.heap.size w) (.cells #[] 76))
  go_wp2_with ((with_reducible refine gate_builtin (b := .append) (xs := #[.tmp 5, .tmp 6]) rfl ?_); at_builtin; refine wpList_append_own _ rfl (.tmp 5) (.tmp 6) 41 rfl w.heap.size 76 i0 _ 2 24 Try.underlying41 hi hi0 hi1 hi2 rfl (by decide) _ 0 [] rfl H1.out ⟨g, 0, none⟩ n c (qC l) rfl (by rw [qC_length, hl]) H2.out H4.out (by unfold maxLen; omega) (by omega) H3.out ?_; intro v w2 ho hg hz; have HO := Aside0.mk ho; have HG := Aside0.mk hg; clear ho hg hz)
  go_ret
  have ho := HO.out
  rw [Nat.zero_add, List.nil_append] at ho
  exact ⟨v, rfl, ho, H5.out.trans ⟨HG.out.os, HG.out.tape, HG.out.output, HG.out.size, fun k hk => HG.out.block k (Nat.lt_of_lt_of_le hk H3.out) (fun e => absurd hk (by cases e; exact Nat.lt_irrefl _))⟩⟩
set_option maxRecDepth 100000 in
theorem clone_nil (w : World) : Calls Try.prog 46 #[.slice none 0 0] w fun e w' => e = .returned (.slice none 0 0) ∧ Below w.heap.size w w' := by
  have hq := run_eql_slice_nil (P := Try.prog) w 41 76 none 0 0 Try.underlying41
  simp only [Option.isNone_none] at hq
  go_enter Try.func46, Try.ntmps46
  go_wp2_with fail
  go_ret
  exact ⟨rfl, Below.refl _ _⟩
theorem clone_c {l : List (Int × ByteArray)} {v : Value} (hr : w.ownsRow B 76 2 v l.length (qC l)) (hB : B ≤ w.heap.size) (hn : l.length < 1000000) :
    Calls Try.prog 46 #[v] w fun e w' => ∃ v, e = .returned v ∧ w'.ownsRow w.heap.size 76 2 v l.length (qC l) ∧ Below w.heap.size w w' := by
  rcases hr.2 with ⟨rfl, h0⟩ | ⟨g, cap, cur, rfl, _⟩
  · refine (clone_nil w).mono ?_
    rintro e w' ⟨rfl, hb⟩
    rw [List.eq_nil_of_length_eq_zero h0]
    exact ⟨_, rfl, World.ownsRow_nil _ _ _ _, hb⟩
  · exact clone_some hr hB hn rfl
set_option maxRecDepth 100000 in
theorem waiting_c (h : IsD w B D vs vq x) (hB : B ≤ w.heap.size) (hn : x.q.length < 1000000) : Calls Try.prog 19 #[.pointer (some ⟨D, 0, none⟩)] w fun e w' => ∃ v, e = .returned v ∧ w'.ownsRow w.heap.size 76 2 v x.q.length (qC x.q) ∧ Below w.heap.size w w' := by
  obtain ⟨⟨c0, c1, c2, c3, c4⟩, f0, f1, f2, f3, f4⟩ := h.cells
  have HC := Aside0.mk (clone_c h.rq hB hn)
  obtain ⟨g, c, rfl⟩ := DskV.form h.rq
  clear h hB hn
  go_enter Try.func19, Try.ntmps19
  go_wp2_with (go_at_call 46; refine HC.out.mono ?_; rintro e w1 ⟨v, rfl, ho, hb⟩; have HB := Aside0.mk hb; have HO := Aside0.mk ho; clear hb ho)
  go_ret
  exact ⟨_, rfl, HO.out, HB.out⟩
end
end Go.Proofs.Ytbmhfmkfkdbmdaa.DskZ
end

section
/-
  What a disk shows: plain words; calls that leave blocks of other kinds as they were.
-/
namespace Go.Proofs.Ytbmhfmkfkdbmdaa.DskE
open Go.RowKit Go.Proofs.YtbmhfmkfkdbmdaaW.PrintWords Go.Proofs.YtbmhfmkfkdbmdaaW.PrintLast Go.Proofs.YtbmhfmkfkdbmdaaW.PrintMore Go.Proofs.Ytbmhfmkfkdbmdaa.DskR Go.Proofs.Ytbmhfmkfkdbmdaa.DskQ Go.Proofs.Ytbmhfmkfkdbmdaa.DskX
set_option linter.unusedVariables false
/-- All pages as they would be were all stable. -/
def cur (x : Dk) : List ByteArray := DskQ.putAll x.s x.q
theorem put_length : ∀ (q : List (Int × ByteArray)) (s : List ByteArray), (DskQ.putAll s q).length = s.length
  | [], _ => rfl
  | p :: q, s => by rw [DskQ.putAll, put_length q, List.length_set]
/-- Blocks of other kinds are as they were. -/
def Kp (w w' : World) : Prop := ∀ (g : Nat) (cs : Array Value) (t : TypeId) (fz : Nat × Nat), t ≠ 71 → t ≠ 9 → t ≠ 76 → w.heap[g]? = some (.cells cs t fz) → w'.heap[g]? = some (.cells cs t fz)
theorem Kp.of_below {w w' : World} (h : Below w.heap.size w w') : Kp w w' := fun g cs t fz _ _ _ hg => (h.block g (blk_lt hg)).trans hg
theorem Kp.refl (w : World) : Kp w w := fun _ _ _ _ _ _ _ h => h
theorem Kp.trans {a b c : World} (h : Kp a b) (k : Kp b c) : Kp a c := fun g cs t fz h1 h2 h3 hg => k g cs t fz h1 h2 h3 (h g cs t fz h1 h2 h3 hg)
section
variable {W w : World} {B D : Nat} {vs vq : Value} {x x' : Dk}
theorem not_own (hd : IsD w B D vs vq x) {g : Nat} {cs : Array Value} {t : TypeId} {fz : Nat × Nat} (h1 : t ≠ 71) (h2 : t ≠ 9) (h3 : t ≠ 76) (hg : w.heap[g]? = some (.cells cs t fz)) : ¬ own D vs vq g := by
  rintro (rfl | hk | hk)
  · rw [hd.blk] at hg; injection hg with hg; injection hg with _ ht _; exact h1 ht.symm
  · exact DskW.ne_own hd.rs hg (fun e => h2 e.symm) hk.symm
  · exact DskW.ne_own hd.rq hg (fun e => h3 e.symm) hk.symm
theorem Kp.of_fr (hd : IsD w B D vs vq x) {w' : World} (hf : Fr w w' (own D vs vq)) : Kp w w' := fun g cs t fz h1 h2 h3 hg => (hf.block g (blk_lt hg) (not_own hd h1 h2 h3 hg)).trans hg
theorem k_write (h : J W D x w) (hq : x.q.length < 1000000) (hu : x.fuse < 9223372036854775808) (at_ : Int) (s : ByteArray) {r : Int} (e : DskV.wr x at_ s = (r, x')) :
    Calls Try.prog 13 #[.pointer (some ⟨D, 0, none⟩), .int .i64 at_, .string s] w fun e w' => e = .returned (.int .i64 r) ∧ J W D x' w' ∧ Kp w w' := by
  obtain ⟨⟨vs, vq, hd⟩, hb⟩ := h
  refine (DskV.write_c hd hb.size hq hu at_ s).mono ?_
  rintro e' w' ⟨rfl, hp⟩
  rw [e] at hp ⊢
  exact ⟨rfl, J.of_post hd hb hp, let ⟨_, _, _, hf, _⟩ := hp; Kp.of_fr hd hf⟩
theorem k_sync (h : J W D x w) (hq : x.q.length < 1000000) (hg : ∀ p ∈ x.q, 0 ≤ p.1 ∧ p.1 < x.s.length) (hu : x.fuse < 9223372036854775808) {r : Int} (e : DskT.sy x = (r, x')) :
    Calls Try.prog 15 #[.pointer (some ⟨D, 0, none⟩)] w fun e w' => e = .returned (.int .i64 r) ∧ J W D x' w' ∧ Kp w w' := by
  obtain ⟨⟨vs, vq, hd⟩, hb⟩ := h
  refine (DskT.sync_c hd hb.size hq hg hu).mono ?_
  rintro e' w' ⟨rfl, hp⟩
  rw [e] at hp ⊢
  exact ⟨rfl, J.of_post hd hb hp, let ⟨_, _, _, hf, _⟩ := hp; Kp.of_fr hd hf⟩
theorem k_read (h : J W D x w) (hq : x.q.length < 1000000) (at_ : Int) {s : ByteArray} {r : Int} (e : DskK.rd x at_ = (s, r)) :
    Calls Try.prog 17 #[.pointer (some ⟨D, 0, none⟩), .int .i64 at_] w fun e w' => e = .returned (.tuple #[.string s, .int .i64 r]) ∧ J W D x w' ∧ Kp w w' := by
  have hJ := h
  obtain ⟨⟨vs, vq, hd⟩, hb⟩ := h
  refine (DskK.read_c hd hq at_).mono ?_
  rintro e' w' ⟨rfl, hp⟩
  rw [e]
  exact ⟨rfl, hJ.below hp, Kp.of_below hp⟩
theorem new_c (n : Int) (h0 : 1 ≤ n) (h1 : n ≤ 200) (W : World) : Calls Try.prog 11 #[.int .i64 n] W fun e w' => ∃ D, e = .returned (.tuple #[.pointer (some ⟨D, 0, none⟩), .bool true]) ∧ J W D ⟨[], [], n, -1, false⟩ w' := by
  refine (DskF.new_c n W).mono ?_
  rintro e w' ⟨hb, h⟩
  rw [if_pos (by simp [DskF.okD]; omega)] at h
  obtain ⟨D, vs, rfl, hd⟩ := h
  exact ⟨D, rfl, ⟨vs, _, hd⟩, hb⟩
end
end Go.Proofs.Ytbmhfmkfkdbmdaa.DskE
end

section
/-
  wakes: what each step makes.
-/
namespace Go.Proofs.Ytbmhfmkfkdbmdaa.DskYF
open Go.RowKit Go.Proofs.YtbmhfmkfkdbmdaaW.PrintWords Go.Proofs.YtbmhfmkfkdbmdaaW.PrintLast Go.Proofs.YtbmhfmkfkdbmdaaW.PrintMore Go.Proofs.Ytbmhfmkfkdbmdaa.DskR Go.Proofs.Ytbmhfmkfkdbmdaa.DskQ Go.Proofs.Ytbmhfmkfkdbmdaa.DskX
set_option linter.unusedVariables false
set_option maxRecDepth 100000 in
theorem pg0_fill : DskG.pg0 = DskP.fillB 0 := by decide +kernel
set_option maxRecDepth 100000 in
theorem torn_fill : DskU.tornB (DskP.fillB 0) (DskP.fillB 7) 1 = (DskP.fillB 7).extract 0 64 ++ (DskP.fillB 0).extract 64 256 := by decide +kernel
section
variable {F0 F1 F7 Z : ByteArray}
theorem s1 (h0 : DskG.pg0 = F0) : DskH.gr ⟨[], [], 3, -1, false⟩ 2 = (0, ⟨[F0, F0], [], 3, -1, false⟩) := by subst h0; rfl
theorem s2 : DskH.gr ⟨[F0, F0], [], 3, -1, false⟩ 4 = (3, ⟨[F0, F0], [], 3, -1, false⟩) := by rfl
theorem s3 (h : F7.size = 256) : DskV.wr ⟨[F0, F0], [], 3, -1, false⟩ 1 F7 = (0, ⟨[F0, F0], [(1, F7)], 3, -1, false⟩) := by simp [DskV.wr, h]
theorem s4 : DskK.rd ⟨[F0, F0], [(1, F7)], 3, -1, false⟩ 1 = (F7, 0) := by simp [DskK.rd, DskJ.dat, DskJ.datK]
theorem s5 (h : DskU.tornB F0 F7 1 = Z) : DskC.crash ⟨[F0, F0], [(1, F7)], 3, -1, false⟩ [1] = ⟨[F0, Z], [], 3, -1, false⟩ := by subst h; rfl
theorem s6 : DskK.rd ⟨[F0, Z], [], 3, -1, false⟩ 1 = (Z, 0) := by simp [DskK.rd, DskJ.dat, DskJ.datK]
theorem s7 : ({ (⟨[F0, Z], [], 3, -1, false⟩ : Dk) with fuse := if (1 : Int) < -1 then -1 else 1 } : Dk) = ⟨[F0, Z], [], 3, 1, false⟩ := rfl
theorem s8 (h : F1.size = 256) : DskV.wr ⟨[F0, Z], [], 3, 1, false⟩ 0 F1 = (0, ⟨[F0, Z], [(0, F1)], 3, 0, false⟩) := by simp [DskV.wr, h]
theorem s9 : DskT.sy ⟨[F0, Z], [(0, F1)], 3, 0, false⟩ = (2, ⟨[F0, Z], [(0, F1)], 3, 0, true⟩) := rfl
theorem s10 : DskK.rd ⟨[F0, Z], [(0, F1)], 3, 0, true⟩ 0 = (⟨#[]⟩, 2) := rfl
theorem s11 : DskC.crash ⟨[F0, Z], [(0, F1)], 3, 0, true⟩ [] = ⟨[F0, Z], [], 3, -1, false⟩ := rfl
theorem s12 : DskK.rd ⟨[F0, Z], [], 3, -1, false⟩ 0 = (F0, 0) := by simp [DskK.rd, DskJ.dat, DskJ.datK]
end
theorem one_u8 (w : World) (v : Int) : Kd.C (Kd.int .u8) (w.alloc (.cells #[.int .u8 v] 5)) (some ⟨w.heap.size, 0, none⟩) 1 [v] := by
  refine ⟨rfl, by decide, fun _ => ⟨_, rfl, fun j p hp => ⟨[.int .u8 v], rfl, ?_, ?_⟩⟩⟩
  · obtain rfl : j = 0 := by
      have := (List.getElem?_eq_some_iff.1 hp).1
      simpa using this
    obtain rfl : v = p := by simpa using hp
    rfl
  · intro i u hu
    obtain rfl : j = 0 := by
      have := (List.getElem?_eq_some_iff.1 hp).1
      simpa using this
    have hi : i = 0 := by
      have := (List.getElem?_eq_some_iff.1 hu).1
      simpa using this
    subst hi
    obtain rfl : Value.int .u8 v = u := by simpa using hu
    exact (blk_cell (blk_new w _) 0)
end Go.Proofs.Ytbmhfmkfkdbmdaa.DskYF
end

section
/-
  wakes: its value is true.
-/
namespace Go.Proofs.Ytbmhfmkfkdbmdaa.DskY
open Go.RowKit Go.Proofs.YtbmhfmkfkdbmdaaW.PrintWords Go.Proofs.YtbmhfmkfkdbmdaaW.PrintLast Go.Proofs.YtbmhfmkfkdbmdaaW.PrintMore Go.Proofs.Ytbmhfmkfkdbmdaa.DskR Go.Proofs.Ytbmhfmkfkdbmdaa.DskQ Go.Proofs.Ytbmhfmkfkdbmdaa.DskX Go.Proofs.Ytbmhfmkfkdbmdaa.DskYF
set_option linter.unusedVariables false
set_option maxHeartbeats 8000000 in
set_option maxRecDepth 100000 in
theorem wakes_c (w : World) : Calls Try.prog 10 #[] w fun e w' => e = .returned (.bool true) ∧ Below w.heap.size w w' := by
  obtain ⟨F0, h0⟩ : ∃ F, F = DskP.fillB 0 := ⟨_, rfl⟩
  obtain ⟨F1, h1⟩ : ∃ F, F = DskP.fillB 1 := ⟨_, rfl⟩
  obtain ⟨F7, h7⟩ : ∃ F, F = DskP.fillB 7 := ⟨_, rfl⟩
  obtain ⟨Z, hz⟩ : ∃ Z, Z = F7.extract 0 64 ++ F0.extract 64 256 := ⟨_, rfl⟩
  have z0 : F0.size = 256 := by rw [h0]; exact DskP.fill_size 0
  have z1 : F1.size = 256 := by rw [h1]; exact DskP.fill_size 1
  have z7 : F7.size = 256 := by rw [h7]; exact DskP.fill_size 7
  have c0 : ∀ w, Calls Try.prog 14 #[.int .u8 0] w fun e w' => e = .returned (.string F0) ∧ Below w.heap.size w w' := fun w => by rw [h0]; exact DskP.fill_c 0 w
  have c1 : ∀ w, Calls Try.prog 14 #[.int .u8 1] w fun e w' => e = .returned (.string F1) ∧ Below w.heap.size w w' := fun w => by rw [h1]; exact DskP.fill_c 1 w
  have c7 : ∀ w, Calls Try.prog 14 #[.int .u8 7] w fun e w' => e = .returned (.string F7) ∧ Below w.heap.size w w' := fun w => by rw [h7]; exact DskP.fill_c 7 w
  have p0 : DskG.pg0 = F0 := by rw [h0]; exact pg0_fill
  have pz : DskU.tornB F0 F7 1 = Z := by rw [hz, h0, h7]; exact torn_fill
  have zz : Z.size = 256 := by rw [← pz]; exact DskC.torn_size F0 F7 z0 z7 1
  have ZZ := Aside0.mk zz
  have C0 := Aside0.mk c0
  have C1 := Aside0.mk c1
  have C7 := Aside0.mk c7
  have P0 := Aside0.mk p0
  have PZ := Aside0.mk pz
  have Z0 := Aside0.mk z0
  have Z1 := Aside0.mk z1
  have Z7 := Aside0.mk z7
  have HZ := Aside0.mk hz
  clear zz c0 c1 c7 p0 pz h0 h1 h7 z0 z1 z7 hz
  go_enter Try.func10, Try.ntmps10
  go_wp2_with (go_at_call 11; refine (new3 _).mono ?_; rintro e w1 ⟨D, rfl, hJ⟩; have HJ := Aside0.mk hJ; clear hJ)
  go_wp2_with (go_at_call 12; refine (j_grow HJ.out (by simp) (by simp) (by simp) 2 (s1 P0.out)).mono ?_; rintro e w2 ⟨rfl, hj⟩; have HJ2 := Aside0.mk hj; clear hj HJ)
  go_wp2_with (go_at_call 12; refine (j_grow HJ2.out (by simp) (by simp) (by simp) 4 s2).mono ?_; rintro e w3 ⟨rfl, hj⟩; have HJ3 := Aside0.mk hj; clear hj HJ2)
  go_wp2_with (go_at_call 14; refine (C7.out _).mono ?_; rintro e w4 ⟨rfl, hb⟩; have HJ4 := Aside0.mk (HJ3.out.below hb); clear hb HJ3)
  go_wp2_with (go_at_call 13; refine (j_write HJ4.out (by simp) (by simp) 1 F7 (s3 Z7.out)).mono ?_; rintro e w5 ⟨rfl, hj⟩; have HJ5 := Aside0.mk hj; clear hj HJ4)
  go_wp2_with (go_at_call 17; refine (j_read HJ5.out (by simp) 1 s4).mono ?_; rintro e w6 ⟨rfl, hj⟩; have HJ6 := Aside0.mk hj; clear hj HJ5)
  go_wp2_with (go_at_call 16; refine (j_crash (HJ6.out.below (below_alloc (Below.refl _ _) _)) (by simp) (by simp) (by simpa using Z0.out) (by simpa using Z7.out) (some ⟨_, 0, none⟩) 1 [1] (by simp) (one_u8 _ 1) (fun ad ha => .inr ⟨_, _, by obtain rfl := Option.some.inj ha; exact blk_new _ _⟩) (s5 PZ.out)).mono ?_; rintro e w7 ⟨rfl, hj⟩; have HJ7 := Aside0.mk hj; clear hj HJ6)
  go_wp2_with (go_at_call 17; refine (jn_read HJ7.out (by simp) 1 s6).mono ?_; rintro e w8 ⟨rfl, hj⟩; have HJ8 := Aside0.mk hj; clear hj HJ7)
  go_wp2_with (go_at_call 18; refine (j_fuse HJ8.out.toJ 1 s7).mono ?_; rintro e w9 ⟨rfl, hj⟩; have HJ9 := Aside0.mk hj; clear hj HJ8)
  go_wp2_with (go_at_call 14; refine (C1.out _).mono ?_; rintro e w10 ⟨rfl, hb⟩; have HJ10 := Aside0.mk (HJ9.out.below hb); clear hb HJ9)
  go_wp2_with (go_at_call 13; refine (j_write HJ10.out (by simp) (by simp) 0 F1 (s8 Z1.out)).mono ?_; rintro e w11 ⟨rfl, hj⟩; have HJ11 := Aside0.mk hj; clear hj HJ10)
  go_wp2_with (go_at_call 15; refine (j_sync HJ11.out (by simp) (by simp) (by simp) s9).mono ?_; rintro e w12 ⟨rfl, hj⟩; have HJ12 := Aside0.mk hj; clear hj HJ11)
  go_wp2_with (go_at_call 17; refine (j_read HJ12.out (by simp) 0 s10).mono ?_; rintro e w13 ⟨rfl, hj⟩; have HJ13 := Aside0.mk hj; clear hj HJ12)
  go_wp2_with (go_at_call 16; refine (j_crash HJ13.out (by simp) (by simp) (by simpa using ⟨Z0.out, ZZ.out⟩) (by simpa using Z1.out) none 0 [] (by simp) (Kd.C_nil _ _) (fun ad ha => nomatch ha) s11).mono ?_; rintro e w14 ⟨rfl, hj⟩; have HJ14 := Aside0.mk hj; clear hj HJ13)
  go_wp2_with (go_at_call 17; refine (jn_read HJ14.out (by simp) 0 s12).mono ?_; rintro e w15 ⟨rfl, hj⟩; have HJ15 := Aside0.mk hj; clear hj HJ14)
  have HC := Aside0.mk (show ∀ w', Cm.Calm w15 w' → JN w D ⟨[F0, Z], [], 3, -1, false⟩ w' from fun w' hc => HJ15.out.below hc.below)
  have HB := Aside0.mk HJ15.out.2
  have CL := Aside0.mk (show ∀ w', Cm.Calm w15 w' → Calls Try.prog 26 #[.pointer (some ⟨D, 0, none⟩)] w' fun e w2 => e = .returned (.int .i64 2) ∧ Below w'.heap.size w' w2 from fun w' hc => p_length (HC.out w' hc))
  have CM := Aside0.mk (show ∀ w', Cm.Calm w15 w' → Calls Try.prog 25 #[.pointer (some ⟨D, 0, none⟩)] w' fun e w2 => e = .returned (.int .i64 3) ∧ Below w'.heap.size w' w2 from fun w' hc => p_limit (HC.out w' hc))
  have CW := Aside0.mk (show ∀ w', Cm.Calm w15 w' → Calls Try.prog 19 #[.pointer (some ⟨D, 0, none⟩)] w' fun e w2 => e = .returned (.slice none 0 0) ∧ Below w'.heap.size w' w2 from fun w' hc => p_waiting (HC.out w' hc))
  have z7 := Z7.out
  have z0 := Z0.out
  have hz := HZ.out
  refine Cm.wp_region_calm_lit w15 (by kernel_rfl) (by kernel_rfl) (Cm.Calm.refl _) ?_
  simp only [List.append_eq, List.cons_append, List.nil_append]
  repeat (first | go_big_quiet_step (fail) | (refine wpQuiet_step (fun K hK => ?_); go_simp; first | (refine hK _ ?_; clear hK K) | (refine ⟨_, fun _ _ => rfl, hK _ ?_⟩; clear hK K) | (apply Exists.intro; refine ⟨fun _ hc_ => ?_, hK _ ?_⟩; (first | with_reducible exact Cm.Calm.call hc_ (C7.out _) | with_reducible exact Cm.Calm.call hc_ (C0.out _) | with_reducible exact Cm.Calm.call hc_ (CL.out _ hc_) | with_reducible exact Cm.Calm.call hc_ (CM.out _ hc_) | with_reducible exact Cm.Calm.call hc_ (CW.out _ hc_)); clear hK K)))
  refine wpQuiet_nil ?_
  intro w' hC
  go_wp2_with fail
  go_ret
  exact ⟨rfl, HB.out.trans (hC.below.mono HB.out.size)⟩
end Go.Proofs.Ytbmhfmkfkdbmdaa.DskY
end

section
/-
  DiskFuses: with a fuse of so many actions just these are done.
-/
namespace Go.Proofs.Ytbmhfmkfkdbmdaa.Dsk3
open Go.RowKit Go.Proofs.YtbmhfmkfkdbmdaaW.PrintWords Go.Proofs.YtbmhfmkfkdbmdaaW.PrintLast Go.Proofs.YtbmhfmkfkdbmdaaW.PrintMore Go.Proofs.Ytbmhfmkfkdbmdaa.DskR Go.Proofs.Ytbmhfmkfkdbmdaa.DskQ Go.Proofs.Ytbmhfmkfkdbmdaa.DskX Go.Proofs.Ytbmhfmkfkdbmdaa.DskE
set_option linter.unusedVariables false
/-- What the loop keeps. -/
structure Inv (x : Dk) (i k : Nat) : Prop where
  len : x.s.length = 4
  s6 : ∀ p ∈ x.s, p.size = 256
  q6 : ∀ p ∈ x.q, p.2.size = 256
  q : x.q.length = min k i
  at_ : ∀ p ∈ x.q, 0 ≤ p.1 ∧ p.1 < 4
  lo : i ≤ k → x.fuse = (k : Int) - i ∧ x.down = false
  hi : k < i → x.fuse = 0 ∧ x.down = true
theorem Inv.write {x : Dk} {i k : Nat} (h : Inv x i k) (j : Nat) (hj : j < 4) (F : ByteArray) (hF : F.size = 256) :
    ∃ x', DskV.wr x (j : Int) F = ((if i < k then 0 else 2), x') ∧ Inv x' (i + 1) k := by
  unfold DskV.wr
  by_cases h1 : i ≤ k
  · obtain ⟨hf, hd⟩ := h.lo h1
    rw [if_neg (by rw [hd]; decide), if_neg (by omega), if_neg (by rw [h.len]; omega)]
    by_cases h2 : i < k
    · rw [if_neg (by omega), if_pos h2, if_pos (by omega)]
      refine ⟨_, rfl, h.len, h.s6, ?_, ?_, ?_, fun h3 => ⟨by show x.fuse - 1 = _; omega, hd⟩, fun h3 => absurd h3 (by omega)⟩
      · intro p hp
        rcases List.mem_append.1 hp with hp | hp
        · exact h.q6 p hp
        · simp only [List.mem_cons, List.not_mem_nil, or_false] at hp
          subst hp
          exact hF
      · show (x.q ++ [((j : Int), F)]).length = _
        rw [List.length_append, h.q, List.length_singleton]; omega
      · intro p hp
        rcases List.mem_append.1 hp with hp | hp
        · exact h.at_ p hp
        · simp only [List.mem_cons, List.not_mem_nil, or_false] at hp
          subst hp
          exact ⟨by simp, by show (j : Int) < 4; omega⟩
    · rw [if_pos (by omega), if_neg h2]
      exact ⟨_, rfl, h.len, h.s6, h.q6, by show x.q.length = _; rw [h.q]; omega, h.at_, fun h3 => absurd h3 (by omega), fun _ => ⟨by show x.fuse = 0; omega, rfl⟩⟩
  · obtain ⟨hf, hd⟩ := h.hi (by omega)
    rw [if_pos hd, if_neg (by omega)]
    exact ⟨_, rfl, h.len, h.s6, h.q6, by rw [h.q]; omega, h.at_, fun h3 => absurd h3 (by omega), fun _ => ⟨hf, hd⟩⟩
theorem Inv.fuse_lt {x : Dk} {i k : Nat} (h : Inv x i k) (hk : k < 1000) : x.fuse < 9223372036854775808 := by
  by_cases h1 : i ≤ k
  · have := (h.lo h1).1; omega
  · have := (h.hi (by omega)).1; omega
theorem put_size {q : List (Int × ByteArray)} : ∀ {s : List ByteArray}, (∀ p ∈ s, p.size = 256) → (∀ p ∈ q, p.2.size = 256) → ∀ p ∈ DskQ.putAll s q, p.size = 256 := by
  induction q with
  | nil => intro s h _; exact h
  | cons r q ih =>
    intro s h h'
    rw [DskQ.putAll]
    exact ih (fun p hp => (List.mem_or_eq_of_mem_set hp).elim (h p) (fun e => by rw [e]; exact h' r (by simp))) (fun p hp => h' p (List.mem_cons_of_mem _ hp))
/-- Behind a sync that was done or not: what a crash may meet. -/
structure Ok (x : Dk) : Prop where
  len : x.s.length = 4
  s6 : ∀ p ∈ x.s, p.size = 256
  q6 : ∀ p ∈ x.q, p.2.size = 256
  q : x.q.length < 1000000
  at_ : ∀ p ∈ x.q, 0 ≤ p.1 ∧ p.1 < 4
theorem Inv.ok {x : Dk} {i k : Nat} (h : Inv x i k) (hk : k < 1000) : Ok x := ⟨h.len, h.s6, h.q6, by rw [h.q]; omega, h.at_⟩
theorem Inv.sync {x : Dk} {i k : Nat} (h : Inv x i k) (hk : k < 1000) : ∃ x', DskT.sy x = ((if i < k then 0 else 2), x') ∧ Ok x' := by
  unfold DskT.sy
  have o := h.ok hk
  by_cases h1 : i ≤ k
  · obtain ⟨hf, hd⟩ := h.lo h1
    rw [if_neg (by rw [hd]; decide)]
    by_cases h2 : i < k
    · rw [if_neg (by omega), if_pos h2]
      exact ⟨_, rfl, (put_length _ _).trans h.len, put_size h.s6 h.q6, fun _ hp => (nomatch hp), by show (0 : Nat) < _; decide, fun _ hp => (nomatch hp)⟩
    · rw [if_pos (by omega), if_neg h2]
      exact ⟨_, rfl, o.len, o.s6, o.q6, o.q, o.at_⟩
  · obtain ⟨hf, hd⟩ := h.hi (by omega)
    rw [if_pos hd, if_neg (by omega)]
    exact ⟨_, rfl, o⟩
theorem Inv.read {x : Dk} {i k : Nat} (h : Inv x i k) : ∃ s, DskK.rd x 0 = (s, if k < i then 2 else 0) := by
  unfold DskK.rd
  by_cases h1 : i ≤ k
  · obtain ⟨hf, hd⟩ := h.lo h1
    rw [if_neg (by rw [hd]; decide), if_neg (by rw [h.len]; omega), if_neg (by omega)]
    exact ⟨_, rfl⟩
  · obtain ⟨hf, hd⟩ := h.hi (by omega)
    rw [if_pos hd, if_pos (by omega)]
    exact ⟨_, rfl⟩
theorem Ok.crash {x : Dk} (h : Ok x) : ∃ s, DskC.crash x [] = ⟨s, [], x.cap, -1, false⟩ ∧ s.length = 4 := ⟨x.s, by unfold DskC.crash; rw [DskC.tear_nil], h.len⟩
theorem up_read (s : List ByteArray) (c : Int) (h : s.length = 4) : ∃ F, DskK.rd ⟨s, [], c, -1, false⟩ 0 = (F, 0) := by
  unfold DskK.rd
  rw [if_neg (fun h => by cases h), if_neg (by show ¬ ¬ ((0 : Int) ≤ 0 ∧ (0 : Int) < (s.length : Int)); rw [h]; decide)]
  exact ⟨_, rfl⟩
theorem up_sync (s : List ByteArray) (c : Int) : DskT.sy ⟨s, [], c, -1, false⟩ = (0, ⟨s, [], c, -1, false⟩) := rfl
theorem start_inv (k : Nat) : Inv ⟨[DskG.pg0, DskG.pg0, DskG.pg0, DskG.pg0], [], 4, (k : Int), false⟩ 0 k := by
  have z : DskG.pg0.size = 256 := by rw [DskYF.pg0_fill]; exact DskP.fill_size 0
  refine ⟨rfl, fun p hp => ?_, fun _ hp => (nomatch hp), by simp, fun _ hp => (nomatch hp), fun _ => ⟨by show (k : Int) = _; omega, rfl⟩, fun h => absurd h (by omega)⟩
  simp only [List.mem_cons, List.not_mem_nil, or_false] at hp
  rcases hp with rfl | rfl | rfl | rfl <;> exact z
theorem fill_any (v : Int) (w : World) : Calls Try.prog 14 #[.int .u8 v] w fun e w' => ∃ F : ByteArray, e = .returned (.string F) ∧ F.size = 256 ∧ Below w.heap.size w w' :=
  (DskP.fill_c v w).mono fun e w' ⟨h, hb⟩ => ⟨_, h, DskP.fill_size v, hb⟩
set_option maxHeartbeats 8000000 in
set_option maxRecDepth 100000 in
theorem walk (n m : Int) (w : World) (hn : 0 ≤ n ∧ n < 256) (hm : 0 ≤ m ∧ m < 256) :
    Calls Try.prog 4 #[.int .u8 n, .int .u8 m] w fun e w' => e = .returned (.bool true) ∧ Below w.heap.size w w' := by
  obtain ⟨k, hk, hk10⟩ : ∃ k : Nat, (wrap64 n).tmod 10 = (k : Int) ∧ k < 10 := by
    rw [show wrap64 n = n by unfold wrap64; omega]
    exact ⟨(n.tmod 10).toNat, by have := Int.tmod_nonneg 10 hn.1; omega, by have := Int.tmod_lt_of_pos n (show (0 : Int) < 10 by decide); omega⟩
  obtain ⟨t, ht, ht12⟩ : ∃ k : Nat, (wrap64 m).tmod 12 = (k : Int) ∧ k < 12 := by
    rw [show wrap64 m = m by unfold wrap64; omega]
    exact ⟨(m.tmod 12).toNat, by have := Int.tmod_nonneg 12 hm.1; omega, by have := Int.tmod_lt_of_pos m (show (0 : Int) < 12 by decide); omega⟩
  have HK := Aside0.mk hk10
  have HT := Aside0.mk ht12
  clear hn hm hk10 ht12
  go_enter Try.func4, Try.ntmps4
  go_wp2_with (go_at_call 11; refine (new_c 4 (by decide) (by decide) _).mono ?_; rintro e w1 ⟨D, rfl, hJ⟩; have HJ := Aside0.mk hJ; clear hJ)
  go_wp2_with (go_at_call 12; refine (j_grow HJ.out (by simp) (by simp) (by simp) 4 (show _ = ((0 : Int), (⟨[DskG.pg0, DskG.pg0, DskG.pg0, DskG.pg0], [], 4, -1, false⟩ : Dk)) from rfl)).mono ?_; rintro e w2 ⟨rfl, hj⟩; have HJ2 := Aside0.mk hj; clear hj HJ)
  go_wp2_with (go_at_call 18; refine (j_fuse HJ2.out _ (show _ = (⟨[DskG.pg0, DskG.pg0, DskG.pg0, DskG.pg0], [], 4, (k : Int), false⟩ : Dk) by rw [if_neg (by omega)])).mono ?_; rintro e w3 ⟨rfl, hj⟩; have HJ3 := Aside0.mk hj; clear hj HJ2)
  go_loopg [9] (t + 1) (fun gk v9 w' => ∃ (i : Nat) (x : Dk), v9 = .int .i64 (i : Int) ∧ Aside0 (gk + i = t + 1 ∧ i ≤ t) ∧ Aside0 (J w D x w') ∧ Aside0 (Inv x i k))
  case atStart => exact ⟨0, _, rfl, ⟨rfl, Nat.zero_le _⟩, HJ3, ⟨start_inv k⟩⟩
  case round =>
    clear HJ3
    obtain ⟨i, x, rfl, HKi, HJ, HI⟩ := hrel
    by_cases hi : i < t
    · have q1 : (i < t) = True := eq_true hi
      cases gk with
      | zero => exact absurd HKi.out (by omega)
      | succ k1_ =>
      obtain ⟨j, hj, hj4⟩ : ∃ j : Nat, (i : Int).tmod 4 = (j : Int) ∧ j < 4 := ⟨i % 4, by rw [Int.tmod_eq_emod_of_nonneg (by omega)]; omega, by omega⟩
      have HI1 := Aside0.mk hi
      have HJ4 := Aside0.mk hj4
      have HX := Aside0.mk (show x.q.length < 1000000 from by have := HI.out.q; have := HK.out; omega)
      clear hi hj4
      by_cases hik : i < k
      · have q2 : (i < k) = True := eq_true hik
        have HIK := Aside0.mk hik
        clear hik
        go_wp2_with (first | (go_at_call 14; with_reducible refine (fill_any _ _).mono ?_; rintro e w5 ⟨F, rfl, hF, hb⟩; have HJ5 := Aside0.mk (HJ.out.below hb); obtain ⟨x6, hw, hi6⟩ := HI.out.write j HJ4.out F hF; rw [if_pos HIK.out] at hw; have HW := Aside0.mk hw; have HI6 := Aside0.mk hi6; clear hb hF hw hi6) | (go_at_call 13; go_must (refine (k_write HJ5.out HX.out (HI.out.fuse_lt (by have := HK.out; omega)) _ _ HW.out).mono ?_; rintro e w6 ⟨rfl, hj, _⟩; have HJ6 := Aside0.mk hj; clear hj)))
        go_roundg k1_
        case measure => omega
        case rel => exact ⟨i + 1, x6, by first | rfl | (congr 1; have := HI1.out; have := HT.out; unfold wrap64; omega), ⟨by have := HKi.out; have := HI1.out; omega⟩, HJ6, HI6⟩
      · have q2 : (i < k) = False := eq_false hik
        have HIK := Aside0.mk hik
        clear hik
        go_wp2_with (first | (go_at_call 14; with_reducible refine (fill_any _ _).mono ?_; rintro e w5 ⟨F, rfl, hF, hb⟩; have HJ5 := Aside0.mk (HJ.out.below hb); obtain ⟨x6, hw, hi6⟩ := HI.out.write j HJ4.out F hF; rw [if_neg HIK.out] at hw; have HW := Aside0.mk hw; have HI6 := Aside0.mk hi6; clear hb hF hw hi6) | (go_at_call 13; go_must (refine (k_write HJ5.out HX.out (HI.out.fuse_lt (by have := HK.out; omega)) _ _ HW.out).mono ?_; rintro e w6 ⟨rfl, hj, _⟩; have HJ6 := Aside0.mk hj; clear hj)))
        go_roundg k1_
        case measure => omega
        case rel => exact ⟨i + 1, x6, by first | rfl | (congr 1; have := HI1.out; have := HT.out; unfold wrap64; omega), ⟨by have := HKi.out; have := HI1.out; omega⟩, HJ6, HI6⟩
    · have q1 : (i < t) = False := eq_false hi
      obtain rfl : i = t := by have := HKi.out; omega
      have HX := Aside0.mk (show x.q.length < 1000000 from by have := HI.out.q; have := HK.out; omega)
      have HQ := Aside0.mk HI.out.q
      clear hi
      obtain ⟨s0, hr⟩ := HI.out.read
      obtain ⟨x7, hs, ok7⟩ := HI.out.sync (by have := HK.out; omega)
      obtain ⟨s8, hc, hl8⟩ := ok7.crash
      obtain ⟨F9, hr9⟩ := up_read s8 x7.cap hl8
      have HRd := Aside0.mk hr
      have HS := Aside0.mk hs
      have HOK := Aside0.mk ok7
      have HCr := Aside0.mk hc
      have HR9 := Aside0.mk hr9
      have HL8 := Aside0.mk hl8
      clear hr hs ok7 hc hr9 hl8
      rcases Nat.lt_trichotomy i k with hik | hik | hik
      · have e1 : (i < k) = True := eq_true hik
        have e2 : (k < i) = False := eq_false (by omega)
        have e4 : min (k : Int) (i : Int) = (i : Int) := by omega
        have e3 : min k i = i := by omega
        rw [e3] at HQ
        rw [if_pos (by omega)] at HS
        rw [if_neg (by omega)] at HRd
        have hq := HQ.out
        clear hik e3
        go_wp2_with (first | (go_at_call 19; (obtain ⟨⟨vs, vq, hd⟩, hb⟩ := HJ.out; refine (DskZ.waiting_c hd hb.size HX.out).mono ?_; rintro e w11 ⟨v, rfl, ho, hb11⟩; obtain ⟨g11, c11, rfl⟩ := DskV.form ho; have HJ11 := Aside0.mk (HJ.out.below hb11); clear ho hb11 hd hb)) | (go_at_call 17; (refine (k_read HJ11.out HX.out _ HRd.out).mono ?_; rintro e w12 ⟨rfl, hj, _⟩; have HJ12 := Aside0.mk hj; clear hj)) | (go_at_call 15; (refine (k_sync HJ12.out HX.out (fun r hr => ⟨(HI.out.at_ r hr).1, by rw [HI.out.len]; exact (HI.out.at_ r hr).2⟩) (HI.out.fuse_lt (by have := HK.out; omega)) HS.out).mono ?_; rintro e w13 ⟨rfl, hj, _⟩; have HJ13 := Aside0.mk hj; clear hj)) | (go_at_call 16; go_must (refine (j_crash HJ13.out HOK.out.q (fun r hr => ⟨(HOK.out.at_ r hr).1, by rw [HOK.out.len]; exact (HOK.out.at_ r hr).2⟩) HOK.out.s6 HOK.out.q6 none 0 [] (by simp) (Kd.C_nil _ _) (fun ad ha => nomatch ha) HCr.out).mono ?_; rintro e w14 ⟨rfl, hj⟩; have HJ14 := Aside0.mk hj; clear hj)))
        go_wp2_with (first | (go_at_call 17; go_must (refine (jn_read HJ14.out (by simp) _ HR9.out).mono ?_; rintro e w15 ⟨rfl, hj⟩; have HJ15 := Aside0.mk hj.toJ; clear hj)) | (go_at_call 15; go_must (refine (k_sync HJ15.out (by simp) (fun r hr => (nomatch hr)) (by show (-1 : Int) < _; decide) (up_sync _ _)).mono ?_; rintro e w16 ⟨rfl, hj, _⟩; have HJ16 := Aside0.mk hj; clear hj)) | (go_at_call 19; go_must (obtain ⟨⟨vs, vq, hd⟩, hb⟩ := HJ16.out; refine (DskZ.waiting_c hd hb.size (by simp)).mono ?_; rintro e w17 ⟨v, rfl, ho, hb17⟩; obtain ⟨g17, c17, rfl⟩ := DskV.form ho; have HJ17 := Aside0.mk (HJ16.out.below hb17); clear ho hb17 hd hb)) | (go_at_call 10; refine (DskY.wakes_c _).mono ?_; rintro e w18 ⟨rfl, hb⟩; have HE := Aside0.mk (HJ17.out.2.trans (hb.mono HJ17.out.2.size)); clear hb))
        go_ret
        exact ⟨rfl, HE.out⟩
      · have e1 : (i < k) = False := eq_false (by omega)
        have e2 : (k < i) = False := eq_false (by omega)
        have e4 : min (k : Int) (i : Int) = (i : Int) := by omega
        have e3 : min k i = i := by omega
        rw [e3] at HQ
        rw [if_neg (by omega)] at HS
        rw [if_neg (by omega)] at HRd
        have hq := HQ.out
        clear hik e3
        go_wp2_with (first | (go_at_call 19; (obtain ⟨⟨vs, vq, hd⟩, hb⟩ := HJ.out; refine (DskZ.waiting_c hd hb.size HX.out).mono ?_; rintro e w11 ⟨v, rfl, ho, hb11⟩; obtain ⟨g11, c11, rfl⟩ := DskV.form ho; have HJ11 := Aside0.mk (HJ.out.below hb11); clear ho hb11 hd hb)) | (go_at_call 17; (refine (k_read HJ11.out HX.out _ HRd.out).mono ?_; rintro e w12 ⟨rfl, hj, _⟩; have HJ12 := Aside0.mk hj; clear hj)) | (go_at_call 15; (refine (k_sync HJ12.out HX.out (fun r hr => ⟨(HI.out.at_ r hr).1, by rw [HI.out.len]; exact (HI.out.at_ r hr).2⟩) (HI.out.fuse_lt (by have := HK.out; omega)) HS.out).mono ?_; rintro e w13 ⟨rfl, hj, _⟩; have HJ13 := Aside0.mk hj; clear hj)) | (go_at_call 16; go_must (refine (j_crash HJ13.out HOK.out.q (fun r hr => ⟨(HOK.out.at_ r hr).1, by rw [HOK.out.len]; exact (HOK.out.at_ r hr).2⟩) HOK.out.s6 HOK.out.q6 none 0 [] (by simp) (Kd.C_nil _ _) (fun ad ha => nomatch ha) HCr.out).mono ?_; rintro e w14 ⟨rfl, hj⟩; have HJ14 := Aside0.mk hj; clear hj)))
        go_wp2_with (first | (go_at_call 17; go_must (refine (jn_read HJ14.out (by simp) _ HR9.out).mono ?_; rintro e w15 ⟨rfl, hj⟩; have HJ15 := Aside0.mk hj.toJ; clear hj)) | (go_at_call 15; go_must (refine (k_sync HJ15.out (by simp) (fun r hr => (nomatch hr)) (by show (-1 : Int) < _; decide) (up_sync _ _)).mono ?_; rintro e w16 ⟨rfl, hj, _⟩; have HJ16 := Aside0.mk hj; clear hj)) | (go_at_call 19; go_must (obtain ⟨⟨vs, vq, hd⟩, hb⟩ := HJ16.out; refine (DskZ.waiting_c hd hb.size (by simp)).mono ?_; rintro e w17 ⟨v, rfl, ho, hb17⟩; obtain ⟨g17, c17, rfl⟩ := DskV.form ho; have HJ17 := Aside0.mk (HJ16.out.below hb17); clear ho hb17 hd hb)) | (go_at_call 10; refine (DskY.wakes_c _).mono ?_; rintro e w18 ⟨rfl, hb⟩; have HE := Aside0.mk (HJ17.out.2.trans (hb.mono HJ17.out.2.size)); clear hb))
        go_ret
        exact ⟨rfl, HE.out⟩
      · have e1 : (i < k) = False := eq_false (by omega)
        have e2 : (k < i) = True := eq_true hik
        have e4 : min (k : Int) (i : Int) = (k : Int) := by omega
        have e3 : min k i = k := by omega
        rw [e3] at HQ
        rw [if_neg (by omega)] at HS
        rw [if_pos (by omega)] at HRd
        have hq := HQ.out
        clear hik e3
        go_wp2_with (first | (go_at_call 19; (obtain ⟨⟨vs, vq, hd⟩, hb⟩ := HJ.out; refine (DskZ.waiting_c hd hb.size HX.out).mono ?_; rintro e w11 ⟨v, rfl, ho, hb11⟩; obtain ⟨g11, c11, rfl⟩ := DskV.form ho; have HJ11 := Aside0.mk (HJ.out.below hb11); clear ho hb11 hd hb)) | (go_at_call 17; (refine (k_read HJ11.out HX.out _ HRd.out).mono ?_; rintro e w12 ⟨rfl, hj, _⟩; have HJ12 := Aside0.mk hj; clear hj)) | (go_at_call 15; (refine (k_sync HJ12.out HX.out (fun r hr => ⟨(HI.out.at_ r hr).1, by rw [HI.out.len]; exact (HI.out.at_ r hr).2⟩) (HI.out.fuse_lt (by have := HK.out; omega)) HS.out).mono ?_; rintro e w13 ⟨rfl, hj, _⟩; have HJ13 := Aside0.mk hj; clear hj)) | (go_at_call 16; go_must (refine (j_crash HJ13.out HOK.out.q (fun r hr => ⟨(HOK.out.at_ r hr).1, by rw [HOK.out.len]; exact (HOK.out.at_ r hr).2⟩) HOK.out.s6 HOK.out.q6 none 0 [] (by simp) (Kd.C_nil _ _) (fun ad ha => nomatch ha) HCr.out).mono ?_; rintro e w14 ⟨rfl, hj⟩; have HJ14 := Aside0.mk hj; clear hj)))
        go_wp2_with (first | (go_at_call 17; go_must (refine (jn_read HJ14.out (by simp) _ HR9.out).mono ?_; rintro e w15 ⟨rfl, hj⟩; have HJ15 := Aside0.mk hj.toJ; clear hj)) | (go_at_call 15; go_must (refine (k_sync HJ15.out (by simp) (fun r hr => (nomatch hr)) (by show (-1 : Int) < _; decide) (up_sync _ _)).mono ?_; rintro e w16 ⟨rfl, hj, _⟩; have HJ16 := Aside0.mk hj; clear hj)) | (go_at_call 19; go_must (obtain ⟨⟨vs, vq, hd⟩, hb⟩ := HJ16.out; refine (DskZ.waiting_c hd hb.size (by simp)).mono ?_; rintro e w17 ⟨v, rfl, ho, hb17⟩; obtain ⟨g17, c17, rfl⟩ := DskV.form ho; have HJ17 := Aside0.mk (HJ16.out.below hb17); clear ho hb17 hd hb)) | (go_at_call 10; refine (DskY.wakes_c _).mono ?_; rintro e w18 ⟨rfl, hb⟩; have HE := Aside0.mk (HJ17.out.2.trans (hb.mono HJ17.out.2.size)); clear hb))
        go_ret
        exact ⟨rfl, HE.out⟩
end Go.Proofs.Ytbmhfmkfkdbmdaa.Dsk3
end

section
/-
  A slice of pairs of bytes as a row hands it: opened.
-/
namespace Go.Proofs.Ytbmhfmkfkdbmdaa.DskOq
open Go.ChangeShapes Go.WideShapes Go.ChangeAt Go.RowKit Go.Proofs.YtbmhfmkfkdbmdaaW.PrintWords Go.Proofs.YtbmhfmkfkdbmdaaW.PrintMore
set_option linter.unusedVariables false
theorem u8_range {z : Int} (h : (Lit.int .u8 z).wf = true) : 0 ≤ z ∧ z < 256 := by
  have hm : IntKind.u8.min ≤ z ∧ z ≤ IntKind.u8.max := by simpa [Lit.wf] using h
  have h0 : 0 ≤ z := hm.1
  have h1 : z ≤ 255 := hm.2
  omega
end Go.Proofs.Ytbmhfmkfkdbmdaa.DskOq
end

section
/-
  DiskFuses: for the row.
-/
namespace Go.Proofs.Ytbmhfmkfkdbmdaa.Dsk3
open Go.RowKit
theorem walkF (n m : Int) (w : World) (hn : (Lit.int .u8 n).wf = true) (hm : (Lit.int .u8 m).wf = true) :
    Calls Try.prog 4 #[.int .u8 n, .int .u8 m] w fun e w' => e = .returned (.bool true) ∧ Below w.heap.size w w' := walk n m w (DskOq.u8_range hn) (DskOq.u8_range hm)
end Go.Proofs.Ytbmhfmkfkdbmdaa.Dsk3
end
