import Derived.Test.YtbmhfmkfkdbmdaaDskP
import Derived.Test.YtbmhfmkfkdbmdaaDskQ
import Derived.Test.YtbmhfmkfkdbmdaaWWords
import Derived.Test.YtbmhfmkfkdbmdaaWMore
section
/-
  The disk's methods, one line each: a disk that stands above a world.
-/
namespace Go.Proofs.Ytbmhfmkfkdbmdaa.DskX
open Go.RowKit Go.Proofs.YtbmhfmkfkdbmdaaW.PrintWords Go.Proofs.YtbmhfmkfkdbmdaaW.PrintLast Go.Proofs.YtbmhfmkfkdbmdaaW.PrintMore Go.Proofs.Ytbmhfmkfkdbmdaa.DskR Go.Proofs.Ytbmhfmkfkdbmdaa.DskQ
set_option linter.unusedVariables false
/-- A disk that was made above W, and nothing below turned. -/
def J (W : World) (D : Nat) (x : Dk) (w : World) : Prop := (∃ vs vq, IsD w W.heap.size D vs vq x) ∧ Below W.heap.size W w
/-- .. where nothing waits in no row at all. -/
def JN (W : World) (D : Nat) (x : Dk) (w : World) : Prop := (∃ vs, IsD w W.heap.size D vs (.slice none 0 0) x) ∧ Below W.heap.size W w
section
variable {W w : World} {D : Nat} {x x' : Dk}
theorem JN.toJ (h : JN W D x w) : J W D x w := ⟨let ⟨vs, hd⟩ := h.1; ⟨vs, _, hd⟩, h.2⟩
theorem J.below (h : J W D x w) {w' : World} (hb : Below w.heap.size w w') : J W D x w' :=
  ⟨let ⟨vs, vq, hd⟩ := h.1; ⟨vs, vq, hd.below hb⟩, below_step h.2 hb⟩
theorem JN.below (h : JN W D x w) {w' : World} (hb : Below w.heap.size w w') : JN W D x w' :=
  ⟨let ⟨vs, hd⟩ := h.1; ⟨vs, hd.below hb⟩, below_step h.2 hb⟩
theorem J.of_post {vs vq : Value} (hd : IsD w W.heap.size D vs vq x) (hb : Below W.heap.size W w) {w' : World} (h : Post w W.heap.size D vs vq x' w') : J W D x' w' := by
  obtain ⟨vs', vq', h1, h2, _⟩ := h
  exact ⟨⟨vs', vq', h1⟩, hb.trans (h2.below hb.size (fun k hk => hd.own_ge hk))⟩
theorem new3 (W : World) : Calls Try.prog 11 #[.int .i64 3] W fun e w' => ∃ D, e = .returned (.tuple #[.pointer (some ⟨D, 0, none⟩), .bool true]) ∧ J W D ⟨[], [], 3, -1, false⟩ w' := by
  refine (DskF.new_c 3 W).mono ?_
  rintro e w' ⟨hb, h⟩
  rw [if_pos (by decide)] at h
  obtain ⟨D, vs, rfl, hd⟩ := h
  exact ⟨D, rfl, ⟨vs, _, hd⟩, hb⟩
theorem j_write (h : J W D x w) (hq : x.q.length < 1000000) (hu : x.fuse < 9223372036854775808) (at_ : Int) (s : ByteArray) {r : Int} (e : DskV.wr x at_ s = (r, x')) :
    Calls Try.prog 13 #[.pointer (some ⟨D, 0, none⟩), .int .i64 at_, .string s] w fun e w' => e = .returned (.int .i64 r) ∧ J W D x' w' := by
  obtain ⟨⟨vs, vq, hd⟩, hb⟩ := h
  refine (DskV.write_c hd hb.size hq hu at_ s).mono ?_
  rintro e' w' ⟨rfl, hp⟩
  rw [e] at hp ⊢
  exact ⟨rfl, J.of_post hd hb hp⟩
theorem j_sync (h : J W D x w) (hq : x.q.length < 1000000) (hg : ∀ p ∈ x.q, 0 ≤ p.1 ∧ p.1 < x.s.length) (hu : x.fuse < 9223372036854775808) {r : Int} (e : DskT.sy x = (r, x')) :
    Calls Try.prog 15 #[.pointer (some ⟨D, 0, none⟩)] w fun e w' => e = .returned (.int .i64 r) ∧ J W D x' w' := by
  obtain ⟨⟨vs, vq, hd⟩, hb⟩ := h
  refine (DskT.sync_c hd hb.size hq hg hu).mono ?_
  rintro e' w' ⟨rfl, hp⟩
  rw [e] at hp ⊢
  exact ⟨rfl, J.of_post hd hb hp⟩
theorem j_grow (h : J W D x w) (hx : x.s.length < 1000000) (hc : x.cap < 1000000) (hu : x.fuse < 9223372036854775808) (n : Int) {r : Int} (e : DskH.gr x n = (r, x')) :
    Calls Try.prog 12 #[.pointer (some ⟨D, 0, none⟩), .int .i64 n] w fun e w' => e = .returned (.int .i64 r) ∧ J W D x' w' := by
  obtain ⟨⟨vs, vq, hd⟩, hb⟩ := h
  refine (DskH.grow_c hd hb.size hx hc hu n).mono ?_
  rintro e' w' ⟨rfl, hp⟩
  rw [e] at hp ⊢
  exact ⟨rfl, J.of_post hd hb hp⟩
theorem j_fuse (h : J W D x w) (n : Int) (e : ({ x with fuse := if n < -1 then -1 else n } : Dk) = x') :
    Calls Try.prog 18 #[.pointer (some ⟨D, 0, none⟩), .int .i64 n] w fun e w' => e = .returned (.tuple #[]) ∧ J W D x' w' := by
  obtain ⟨⟨vs, vq, hd⟩, hb⟩ := h
  refine (DskM.fuse_c hd n).mono ?_
  rintro e' w' ⟨rfl, hp⟩
  rw [e] at hp
  exact ⟨rfl, J.of_post hd hb hp⟩
theorem j_read (h : J W D x w) (hq : x.q.length < 1000000) (at_ : Int) {s : ByteArray} {r : Int} (e : DskK.rd x at_ = (s, r)) :
    Calls Try.prog 17 #[.pointer (some ⟨D, 0, none⟩), .int .i64 at_] w fun e w' => e = .returned (.tuple #[.string s, .int .i64 r]) ∧ J W D x w' := by
  have hJ := h
  obtain ⟨⟨vs, vq, hd⟩, hb⟩ := h
  refine (DskK.read_c hd hq at_).mono ?_
  rintro e' w' ⟨rfl, hp⟩
  rw [e]
  exact ⟨rfl, hJ.below hp⟩
theorem jn_read (h : JN W D x w) (hq : x.q.length < 1000000) (at_ : Int) {s : ByteArray} {r : Int} (e : DskK.rd x at_ = (s, r)) :
    Calls Try.prog 17 #[.pointer (some ⟨D, 0, none⟩), .int .i64 at_] w fun e w' => e = .returned (.tuple #[.string s, .int .i64 r]) ∧ JN W D x w' := by
  have hJ := h
  obtain ⟨⟨vs, hd⟩, hb⟩ := h
  refine (DskK.read_c hd hq at_).mono ?_
  rintro e' w' ⟨rfl, hp⟩
  rw [e]
  exact ⟨rfl, hJ.below hp⟩
/-- The choice lies apart: below W, or not among the disk's blocks. -/
theorem j_crash (h : J W D x w) (hq : x.q.length < 1000000) (hg : ∀ p ∈ x.q, 0 ≤ p.1 ∧ p.1 < x.s.length) (hs6 : ∀ p ∈ x.s, p.size = 256) (hq6 : ∀ p ∈ x.q, p.2.size = 256) (CA : Option Addr) (cc : Nat) (l : List Int) (hl : ∀ c ∈ l, 0 ≤ c ∧ c < 256) (hr : Kd.C (Kd.int .u8) w CA l.length l)
    (hsep : ∀ ad, CA = some ad → ad.block < W.heap.size ∨ ∃ cs fz, w.heap[ad.block]? = some (.cells cs 5 fz)) (e : DskC.crash x l = x') :
    Calls Try.prog 16 #[.pointer (some ⟨D, 0, none⟩), .slice CA l.length cc] w fun e w' => e = .returned (.tuple #[]) ∧ JN W D x' w' := by
  obtain ⟨⟨vs, vq, hd⟩, hb⟩ := h
  refine (DskC.crash_c hd hq hg hs6 hq6 CA cc l hl hr (fun _ ad ha => ?_)).mono ?_
  · rcases hsep ad ha with h1 | ⟨cs, fz, h1⟩
    · exact ⟨fun hk => Nat.not_lt.2 (hd.own_ge hk) h1, Nat.lt_of_lt_of_le h1 hb.size⟩
    · refine ⟨fun hk => ?_, blk_lt h1⟩
      rcases hk with hk | hk | hk
      · rw [hk, hd.blk] at h1; simp at h1
      · exact DskW.ne_own hd.rs h1 (by decide) hk.symm
      · exact DskW.ne_own hd.rq h1 (by decide) hk.symm
  · rintro e' w' ⟨rfl, vs', h1, h2, _⟩
    rw [e] at h1
    exact ⟨rfl, ⟨vs', h1⟩, hb.trans (h2.below hb.size (fun k hk => hd.own_ge hk))⟩
theorem p_length (h : JN W D x w) : Calls Try.prog 26 #[.pointer (some ⟨D, 0, none⟩)] w fun e w' => e = .returned (.int .i64 (x.s.length : Int)) ∧ Below w.heap.size w w' := by
  obtain ⟨⟨vs, hd⟩, hb⟩ := h
  obtain ⟨A, c, e⟩ := DskV.form hd.rs
  exact DskM.length_c hd e
theorem p_limit (h : JN W D x w) : Calls Try.prog 25 #[.pointer (some ⟨D, 0, none⟩)] w fun e w' => e = .returned (.int .i64 x.cap) ∧ Below w.heap.size w w' := by
  obtain ⟨⟨vs, hd⟩, hb⟩ := h
  exact DskM.limit_c hd
theorem p_waiting (h : JN W D x w) : Calls Try.prog 19 #[.pointer (some ⟨D, 0, none⟩)] w fun e w' => e = .returned (.slice none 0 0) ∧ Below w.heap.size w w' := by
  obtain ⟨⟨vs, hd⟩, hb⟩ := h
  exact DskP.waiting_none hd
end
end Go.Proofs.Ytbmhfmkfkdbmdaa.DskX
end

section
/-
  slices.Clone of what waits; Waiting.
-/
namespace Go.Proofs.Ytbmhfmkfkdbmdaa.DskZ
open Go.RowKit Go.Proofs.YtbmhfmkfkdbmdaaW.PrintWords Go.Proofs.YtbmhfmkfkdbmdaaW.PrintLast Go.Proofs.YtbmhfmkfkdbmdaaW.PrintMore Go.Proofs.Ytbmhfmkfkdbmdaa.DskR
set_option linter.unusedVariables false
theorem run_equalIn_slice_nil {P : Program} (w : World) (d : Nat) (t e : TypeId) (a : Option Addr) (l c : Nat) (h : P.underlying t = some (.slice e)) : (Op.equalIn (d + 1) t (.slice a l c) (.slice none 0 0)).run P w = .ok a.isNone w := by
  cases a <;> simp [Op.equalIn, run_underlying h]
theorem run_equal_slice_nil {P : Program} (w : World) (t e : TypeId) (a : Option Addr) (l c : Nat) (h : P.underlying t = some (.slice e)) : (Op.equal t (.slice a l c) (.slice none 0 0)).run P w = .ok a.isNone w := run_equalIn_slice_nil w 9999 t e a l c h
theorem run_eql_slice_nil {P : Program} (w : World) (t e : TypeId) (a : Option Addr) (l c : Nat) (h : P.underlying t = some (.slice e)) : (binOp .eql t (.slice a l c) (.slice none 0 0)).run P w = .ok (.bool a.isNone) w := by
  simp [binOp, run_equal_slice_nil w t e a l c h]
theorem qC_cell (l : List (Int × ByteArray)) : ∀ u ∈ qC l, u.oneCell' = true := by
  intro u hu
  unfold qC at hu
  rw [List.mem_flatMap] at hu
  obtain ⟨p, _, hp⟩ := hu
  simp only [List.mem_cons, List.not_mem_nil, or_false] at hp
  rcases hp with rfl | rfl <;> rfl
section
variable {w : World} {B D : Nat} {vs vq : Value} {x : Dk}
set_option maxRecDepth 100000 in
set_option maxHeartbeats 2000000 in
theorem clone_some {g n c : Nat} {l : List (Int × ByteArray)} (hr : w.ownsRow B 76 2 (.slice (some ⟨g, 0, none⟩) n c) n (qC l)) (hB : B ≤ w.heap.size) (hn : n < 1000000) (hl : l.length = n) :
    Calls Try.prog 46 #[.slice (some ⟨g, 0, none⟩) n c] w fun e w' => ∃ v, e = .returned v ∧ w'.ownsRow w.heap.size 76 2 v n (qC l) ∧ Below w.heap.size w w' := by
  obtain ⟨i0, hi, hi0, hi1, hi2⟩ := info_parts (show (Try.prog.info? 76).map (fun i => (i.zero, i.size, i.bytes)) = some (some (.agg #[.int .i64 0, .string (⟨#[]⟩ : ByteArray)]), 2, 24) by kernel_rfl)
  have hq := run_eql_slice_nil (P := Try.prog) w 41 76 (some ⟨g, 0, none⟩) n c Try.underlying41
  simp only [Option.isNone_some] at hq
  have hc := hr.cells (g := g) rfl
  have hgl : g < w.heap.size := (hr.lt g rfl).2
  have HR := Aside0.mk hr
  have HC := Aside0.mk hc
  clear hr hc
  go_enter Try.func46, Try.ntmps46
  have H1 := Aside0.mk (show ((w.alloc (.cells #[] 76)).ownsRow w.heap.size 76 2 (.slice (some ⟨w.heap.size, 0, none⟩) 0 0) 0 []) from ⟨rfl, .inr ⟨_, 0, #[], rfl, Nat.le_refl _, blk_new _ _, by omega, by decide, rfl, rfl⟩⟩)
  have H2 := Aside0.mk (show ∀ j u, (qC l)[j]? = some u → (w.alloc (.cells #[] 76)).cell? ((⟨g, 0, none⟩ : Addr).add j) = some u from fun j u hu => ((below_alloc (Below.refl w.heap.size w) _).cell (p := (⟨g, 0, none⟩ : Addr).add j) (by unfold Addr.add; split <;> exact hgl)).trans (HC.out j u hu))
  have H3 := Aside0.mk (show w.heap.size ≤ (w.alloc (.cells #[] 76)).heap.size by simp)
  have H4 := Aside0.mk (qC_cell l)
  have H5 := Aside0.mk (below_alloc (Below.refl w.heap.size w) (.cells #[] 76))
  go_wp2_with ((with_reducible refine gate_builtin (b := .append) (xs := #[.tmp 5, .tmp 6]) rfl ?_); at_builtin; refine wpList_append_own _ rfl (.tmp 5) (.tmp 6) 41 rfl w.heap.size 76 i0 _ 2 24 Try.underlying41 hi hi0 hi1 hi2 rfl (by decide) _ 0 [] rfl H1.out ⟨g, 0, none⟩ n c (qC l) rfl (by rw [qC_length, hl]) H2.out H4.out (by unfold maxLen; omega) (by omega) H3.out ?_; intro v w2 ho hg hz; have HO := Aside0.mk ho; have HG := Aside0.mk hg; clear ho hg hz)
  go_ret
  have ho := HO.out
  rw [Nat.zero_add, List.nil_append] at ho
  exact ⟨v, rfl, ho, H5.out.trans ⟨HG.out.os, HG.out.tape, HG.out.output, HG.out.size, fun k hk => HG.out.block k (Nat.lt_of_lt_of_le hk H3.out) (fun e => absurd hk (by cases e; exact Nat.lt_irrefl _))⟩⟩
set_option maxRecDepth 100000 in
theorem clone_nil (w : World) : Calls Try.prog 46 #[.slice none 0 0] w fun e w' => e = .returned (.slice none 0 0) ∧ Below w.heap.size w w' := by
  have hq := run_eql_slice_nil (P := Try.prog) w 41 76 none 0 0 Try.underlying41
  simp only [Option.isNone_none] at hq
  go_enter Try.func46, Try.ntmps46
  go_wp2_with fail
  go_ret
  exact ⟨rfl, Below.refl _ _⟩
theorem clone_c {l : List (Int × ByteArray)} {v : Value} (hr : w.ownsRow B 76 2 v l.length (qC l)) (hB : B ≤ w.heap.size) (hn : l.length < 1000000) :
    Calls Try.prog 46 #[v] w fun e w' => ∃ v, e = .returned v ∧ w'.ownsRow w.heap.size 76 2 v l.length (qC l) ∧ Below w.heap.size w w' := by
  rcases hr.2 with ⟨rfl, h0⟩ | ⟨g, cap, cur, rfl, _⟩
  · refine (clone_nil w).mono ?_
    rintro e w' ⟨rfl, hb⟩
    rw [List.eq_nil_of_length_eq_zero h0]
    exact ⟨_, rfl, World.ownsRow_nil _ _ _ _, hb⟩
  · exact clone_some hr hB hn rfl
end
end Go.Proofs.Ytbmhfmkfkdbmdaa.DskZ
end

section
/-
  What a disk shows: plain words; calls that leave blocks of other kinds as they were.
-/
namespace Go.Proofs.Ytbmhfmkfkdbmdaa.DskE
open Go.RowKit Go.Proofs.YtbmhfmkfkdbmdaaW.PrintWords Go.Proofs.YtbmhfmkfkdbmdaaW.PrintLast Go.Proofs.YtbmhfmkfkdbmdaaW.PrintMore Go.Proofs.Ytbmhfmkfkdbmdaa.DskR Go.Proofs.Ytbmhfmkfkdbmdaa.DskQ Go.Proofs.Ytbmhfmkfkdbmdaa.DskX
set_option linter.unusedVariables false
/-- All pages as they would be were all stable. -/
def cur (x : Dk) : List ByteArray := DskQ.putAll x.s x.q
theorem put_length : ∀ (q : List (Int × ByteArray)) (s : List ByteArray), (DskQ.putAll s q).length = s.length
  | [], _ => rfl
  | p :: q, s => by rw [DskQ.putAll, put_length q, List.length_set]
theorem put_snoc (p : Int × ByteArray) : ∀ (q : List (Int × ByteArray)) (s : List ByteArray), DskQ.putAll s (q ++ [p]) = (DskQ.putAll s q).set p.1.toNat p.2
  | [], _ => rfl
  | r :: q, s => by rw [List.cons_append, DskQ.putAll, put_snoc p q, DskQ.putAll]
theorem datK_congr {x y : Dk} (a : Int) (hs : x.s = y.s) : ∀ n, (∀ k, k < n → x.q.getD k z0 = y.q.getD k z0) → DskJ.datK x a n = DskJ.datK y a n
  | 0, _ => by rw [DskJ.datK, DskJ.datK, hs]
  | n + 1, h => by rw [DskJ.datK, DskJ.datK, h n (Nat.lt_succ_self n), datK_congr a hs n (fun k hk => h k (Nat.lt_succ_of_lt hk))]
theorem dat_snoc (x : Dk) (q : List (Int × ByteArray)) (p : Int × ByteArray) (hq : x.q = q ++ [p]) (a : Int) : DskJ.dat x a = if p.1 = a then p.2 else DskJ.dat { x with q := q } a := by
  have e : x.q.getD q.length z0 = p := by rw [hq, List.getD_eq_getElem?_getD, List.getElem?_append_right (Nat.le_refl _)]; simp
  show DskJ.datK x a x.q.length = _
  rw [show x.q.length = q.length + 1 by rw [hq]; simp, DskJ.datK, e]
  split
  · rfl
  exact datK_congr (x := x) (y := { x with q := q }) a rfl q.length (fun k hk => by rw [hq, List.getD_eq_getElem?_getD, List.getD_eq_getElem?_getD, List.getElem?_append_left hk])
theorem dat_cur (s : List ByteArray) (cap fuse : Int) (down : Bool) (a : Int) (h0 : 0 ≤ a) (h1 : a < s.length) : ∀ (n : Nat) (q : List (Int × ByteArray)), q.length = n → (∀ p ∈ q, 0 ≤ p.1) → DskJ.dat ⟨s, q, cap, fuse, down⟩ a = (DskQ.putAll s q).getD a.toNat e0
  | 0, q, hn, _ => by
    obtain rfl := List.eq_nil_of_length_eq_zero hn
    rfl
  | n + 1, q, hn, hp => by
    rcases List.eq_nil_or_concat q with rfl | ⟨q', p, rfl⟩
    · cases hn
    rw [List.concat_eq_append] at hn hp ⊢
    rw [dat_snoc _ q' p rfl a, put_snoc]
    have ih := dat_cur s cap fuse down a h0 h1 n q' (by simpa using hn) (fun r hr => hp r (List.mem_append_left _ hr))
    have p0 := hp p (by simp)
    rw [List.getD_eq_getElem?_getD]
    by_cases e : p.1 = a
    · rw [if_pos e, e, List.getElem?_set_self (by rw [put_length]; omega)]; rfl
    · rw [if_neg e, List.getElem?_set_ne (by omega), ← List.getD_eq_getElem?_getD]
      exact ih
theorem rd_cur (x : Dk) (hd : x.down = false) (hq : ∀ p ∈ x.q, 0 ≤ p.1) (a : Int) (h0 : 0 ≤ a) (h1 : a < x.s.length) : DskK.rd x a = ((cur x).getD a.toNat e0, 0) := by
  unfold DskK.rd
  rw [if_neg (by rw [hd]; decide), if_neg (by simp [h0, h1])]
  exact congrArg (·, 0) (dat_cur x.s x.cap x.fuse x.down a h0 h1 _ x.q rfl hq)
/-- Blocks of other kinds are as they were. -/
def Kp (w w' : World) : Prop := ∀ (g : Nat) (cs : Array Value) (t : TypeId) (fz : Nat × Nat), t ≠ 71 → t ≠ 9 → t ≠ 76 → w.heap[g]? = some (.cells cs t fz) → w'.heap[g]? = some (.cells cs t fz)
theorem Kp.of_below {w w' : World} (h : Below w.heap.size w w') : Kp w w' := fun g cs t fz _ _ _ hg => (h.block g (blk_lt hg)).trans hg
theorem Kp.refl (w : World) : Kp w w := fun _ _ _ _ _ _ _ h => h
theorem Kp.trans {a b c : World} (h : Kp a b) (k : Kp b c) : Kp a c := fun g cs t fz h1 h2 h3 hg => k g cs t fz h1 h2 h3 (h g cs t fz h1 h2 h3 hg)
section
variable {W w : World} {B D : Nat} {vs vq : Value} {x x' : Dk}
theorem not_own (hd : IsD w B D vs vq x) {g : Nat} {cs : Array Value} {t : TypeId} {fz : Nat × Nat} (h1 : t ≠ 71) (h2 : t ≠ 9) (h3 : t ≠ 76) (hg : w.heap[g]? = some (.cells cs t fz)) : ¬ own D vs vq g := by
  rintro (rfl | hk | hk)
  · rw [hd.blk] at hg; injection hg with hg; injection hg with _ ht _; exact h1 ht.symm
  · exact DskW.ne_own hd.rs hg (fun e => h2 e.symm) hk.symm
  · exact DskW.ne_own hd.rq hg (fun e => h3 e.symm) hk.symm
theorem Kp.of_fr (hd : IsD w B D vs vq x) {w' : World} (hf : Fr w w' (own D vs vq)) : Kp w w' := fun g cs t fz h1 h2 h3 hg => (hf.block g (blk_lt hg) (not_own hd h1 h2 h3 hg)).trans hg
theorem k_write (h : J W D x w) (hq : x.q.length < 1000000) (hu : x.fuse < 9223372036854775808) (at_ : Int) (s : ByteArray) {r : Int} (e : DskV.wr x at_ s = (r, x')) :
    Calls Try.prog 13 #[.pointer (some ⟨D, 0, none⟩), .int .i64 at_, .string s] w fun e w' => e = .returned (.int .i64 r) ∧ J W D x' w' ∧ Kp w w' := by
  obtain ⟨⟨vs, vq, hd⟩, hb⟩ := h
  refine (DskV.write_c hd hb.size hq hu at_ s).mono ?_
  rintro e' w' ⟨rfl, hp⟩
  rw [e] at hp ⊢
  exact ⟨rfl, J.of_post hd hb hp, let ⟨_, _, _, hf, _⟩ := hp; Kp.of_fr hd hf⟩
theorem k_sync (h : J W D x w) (hq : x.q.length < 1000000) (hg : ∀ p ∈ x.q, 0 ≤ p.1 ∧ p.1 < x.s.length) (hu : x.fuse < 9223372036854775808) {r : Int} (e : DskT.sy x = (r, x')) :
    Calls Try.prog 15 #[.pointer (some ⟨D, 0, none⟩)] w fun e w' => e = .returned (.int .i64 r) ∧ J W D x' w' ∧ Kp w w' := by
  obtain ⟨⟨vs, vq, hd⟩, hb⟩ := h
  refine (DskT.sync_c hd hb.size hq hg hu).mono ?_
  rintro e' w' ⟨rfl, hp⟩
  rw [e] at hp ⊢
  exact ⟨rfl, J.of_post hd hb hp, let ⟨_, _, _, hf, _⟩ := hp; Kp.of_fr hd hf⟩
theorem k_read (h : J W D x w) (hq : x.q.length < 1000000) (at_ : Int) {s : ByteArray} {r : Int} (e : DskK.rd x at_ = (s, r)) :
    Calls Try.prog 17 #[.pointer (some ⟨D, 0, none⟩), .int .i64 at_] w fun e w' => e = .returned (.tuple #[.string s, .int .i64 r]) ∧ J W D x w' ∧ Kp w w' := by
  have hJ := h
  obtain ⟨⟨vs, vq, hd⟩, hb⟩ := h
  refine (DskK.read_c hd hq at_).mono ?_
  rintro e' w' ⟨rfl, hp⟩
  rw [e]
  exact ⟨rfl, hJ.below hp, Kp.of_below hp⟩
theorem new_c (n : Int) (h0 : 1 ≤ n) (h1 : n ≤ 200) (W : World) : Calls Try.prog 11 #[.int .i64 n] W fun e w' => ∃ D, e = .returned (.tuple #[.pointer (some ⟨D, 0, none⟩), .bool true]) ∧ J W D ⟨[], [], n, -1, false⟩ w' := by
  refine (DskF.new_c n W).mono ?_
  rintro e w' ⟨hb, h⟩
  rw [if_pos (by simp [DskF.okD]; omega)] at h
  obtain ⟨D, vs, rfl, hd⟩ := h
  exact ⟨D, rfl, ⟨vs, _, hd⟩, hb⟩
theorem J.far (h : J W D x w) {g : Nat} {cs : Array Value} {t : TypeId} {fz : Nat × Nat} (h1 : t ≠ 71) (h2 : t ≠ 9) (h3 : t ≠ 76) (hg : w.heap[g]? = some (.cells cs t fz)) (hge : W.heap.size ≤ g) (o : Nat) (u : Value) : J W D x (w.setCell ⟨g, o, none⟩ u) := by
  obtain ⟨⟨vs, vq, hd⟩, hb⟩ := h
  exact ⟨⟨vs, vq, hd.far ⟨g, o, none⟩ u (not_own hd h1 h2 h3 hg)⟩, hb.setCell hge u⟩
end
end Go.Proofs.Ytbmhfmkfkdbmdaa.DskE
end

section
/-
  Texts and lists of numbers.
-/
namespace Go.Proofs.Ytbmhfmkfkdbmdaa.Str
open Go.RowKit Go.Proofs.YtbmhfmkfkdbmdaaW.PrintWords
set_option linter.unusedVariables false
theorem wr {x : Int} (h0 : 0 ≤ x) (h1 : x < 4611686018427387904) : wrap64 x = x := by unfold wrap64; omega
def R (l : List Int) : Prop := ∀ x ∈ l, 0 ≤ x ∧ x < 256
theorem str_bytes (s : ByteArray) : strOfNums (bytesOf s) = s := by
  have h : (strOfNums (bytesOf s)).data.toList = s.data.toList := by
    rw [strOfNums_data, bytesOf, List.map_map]
    conv => rhs; rw [← List.map_id s.data.toList]
    congr 1
    funext b
    simp
  have h2 : (strOfNums (bytesOf s)).data = s.data := by rw [← Array.toList_inj]; exact h
  cases s; cases hh : strOfNums (bytesOf _); rw [hh] at h2; simp at h2; rw [h2]
theorem bytes_inj {s t : ByteArray} (h : bytesOf s = bytesOf t) : s = t := by rw [← str_bytes s, ← str_bytes t, h]
theorem str_app (a b : List Int) : strOfNums (a ++ b) = strOfNums a ++ strOfNums b := by
  have h : (strOfNums (a ++ b)).data = (strOfNums a ++ strOfNums b).data := by
    rw [← Array.toList_inj, ByteArray.data_append, Array.toList_append]
    simp only [strOfNums_data, List.map_append]
  cases h1 : strOfNums (a ++ b); cases h2 : strOfNums a ++ strOfNums b; rw [h1, h2] at h; simp at h; rw [h]
theorem toList_eq (s : ByteArray) : s.toList = s.data.toList := ByteArray.toList_eq s
theorem toList_inj (s t : ByteArray) : s.toList = t.toList ↔ s = t := by
  constructor
  · intro h
    rw [toList_eq, toList_eq] at h
    exact bytes_inj (by unfold bytesOf; rw [h])
  · rintro rfl; rfl
end Go.Proofs.Ytbmhfmkfkdbmdaa.Str
end

section
/-
  DiskSurvives in plain words: sectors of pages that were torn.
-/
namespace Go.Proofs.Ytbmhfmkfkdbmdaa.Dsk4P
open Go.RowKit Go.Proofs.YtbmhfmkfkdbmdaaW.PrintWords Go.Proofs.YtbmhfmkfkdbmdaaW.PrintLast Go.Proofs.YtbmhfmkfkdbmdaaW.PrintMore Go.Proofs.Ytbmhfmkfkdbmdaa.DskR Go.Proofs.Ytbmhfmkfkdbmdaa.DskQ Go.Proofs.Ytbmhfmkfkdbmdaa.DskX Go.Proofs.Ytbmhfmkfkdbmdaa.DskE
set_option linter.unusedVariables false
theorem ex_full {a : ByteArray} (h : a.size = 64) : a.extract 0 64 = a := by rw [← h]; exact ByteArray.extract_zero_size
theorem ex_past {a : ByteArray} (h : a.size = 64) {i j : Nat} (hi : 64 ≤ i) : a.extract i j = ByteArray.empty := ByteArray.extract_eq_empty_iff.2 (by omega)
theorem quad {a0 a1 a2 a3 : ByteArray} (h0 : a0.size = 64) (h1 : a1.size = 64) (h2 : a2.size = 64) (h3 : a3.size = 64) :
    (a0 ++ (a1 ++ (a2 ++ a3))).extract 0 64 = a0 ∧ (a0 ++ (a1 ++ (a2 ++ a3))).extract 64 128 = a1 ∧ (a0 ++ (a1 ++ (a2 ++ a3))).extract 128 192 = a2 ∧ (a0 ++ (a1 ++ (a2 ++ a3))).extract 192 256 = a3 := by
  refine ⟨?_, ?_, ?_, ?_⟩ <;> simp [ByteArray.extract_append, h0, h1, h2, h3, ex_full, ex_past]
/-- A page's sector. -/
def sect (a : ByteArray) (k : Nat) : ByteArray := a.extract (k * 64) ((k + 1) * 64)
def one (v : Int) : ByteArray := strOfNums (List.replicate 64 v)
theorem one_size (v : Int) : (one v).size = 64 := (strOfNums_size _).trans List.length_replicate
theorem rep (v : Int) (a b c d n : Nat) (h : a + (b + (c + d)) = n) : List.replicate n v = List.replicate a v ++ (List.replicate b v ++ (List.replicate c v ++ List.replicate d v)) := by
  rw [List.replicate_append_replicate, List.replicate_append_replicate, List.replicate_append_replicate, h]
theorem fill_four (v : Int) : DskP.fillB v = one v ++ (one v ++ (one v ++ one v)) := by
  unfold DskP.fillB one
  rw [rep v 64 64 64 64 256 rfl, Str.str_app, Str.str_app, Str.str_app]
theorem sect_fill (v : Int) (k : Nat) (hk : k < 4) : sect (DskP.fillB v) k = one v := by
  have z := one_size v
  rw [fill_four]
  match k, hk with
  | 0, _ => exact (quad z z z z).1
  | 1, _ => exact (quad z z z z).2.1
  | 2, _ => exact (quad z z z z).2.2.1
  | 3, _ => exact (quad z z z z).2.2.2
theorem fill_front (v : Int) : (DskP.fillB v).extract 0 64 = one v := sect_fill v 0 (by decide)
theorem sec_sect (a b : ByteArray) (c i : Nat) : DskU.sec a b c i = if c / 2 ^ i % 2 = 1 then sect b i else sect a i := by
  unfold DskU.sec sect
  by_cases h : c / 2 ^ i % 2 = 1
  · rw [if_pos h, if_pos (decide_eq_true h)]
  · rw [if_neg h, if_neg (by rw [decide_eq_false h]; decide)]
theorem sect_torn (a b : ByteArray) (ha : a.size = 256) (hb : b.size = 256) (c k : Nat) (hk : k < 4) : sect (DskU.tornB a b c) k = if c / 2 ^ k % 2 = 1 then sect b k else sect a k := by
  have z := fun i hi => DskC.sec_size a b ha hb c i hi
  rw [← sec_sect]
  match k, hk with
  | 0, _ => exact (quad (z 0 (by decide)) (z 1 (by decide)) (z 2 (by decide)) (z 3 (by decide))).1
  | 1, _ => exact (quad (z 0 (by decide)) (z 1 (by decide)) (z 2 (by decide)) (z 3 (by decide))).2.1
  | 2, _ => exact (quad (z 0 (by decide)) (z 1 (by decide)) (z 2 (by decide)) (z 3 (by decide))).2.2.1
  | 3, _ => exact (quad (z 0 (by decide)) (z 1 (by decide)) (z 2 (by decide)) (z 3 (by decide))).2.2.2
theorem tear_snoc (p : Int × ByteArray) (c : Int) : ∀ (q : List (Int × ByteArray)) (l : List Int) (s : List ByteArray), q.length = l.length → DskC.tear s (q ++ [p]) (l ++ [c]) = (DskC.tear s q l).set p.1.toNat (DskU.tornB ((DskC.tear s q l).getD p.1.toNat e0) p.2 c.toNat)
  | [], [], s, _ => rfl
  | _ :: _, [], _, h => by cases h
  | [], _ :: _, _, h => by cases h
  | r :: q, d :: l, s, h => by
    rw [List.cons_append, List.cons_append, DskC.tear, DskC.tear]
    exact tear_snoc p c q l _ (Nat.succ.inj h)
theorem tear_length : ∀ (q : List (Int × ByteArray)) (l : List Int) (s : List ByteArray), (DskC.tear s q l).length = s.length
  | [], _, s => by rw [DskC.tear]; intro _ _ _ _ h; cases h
  | _ :: _, [], s => rfl
  | r :: q, d :: l, s => by rw [DskC.tear, tear_length q l, List.length_set]
theorem tear_take : ∀ (q : List (Int × ByteArray)) (l : List Int) (s : List ByteArray), DskC.tear s q l = DskC.tear s (q.take (min q.length l.length)) (l.take (min q.length l.length))
  | [], l, s => by simp; cases l <;> rfl
  | r :: q, [], s => by rw [List.length_nil, Nat.min_zero, List.take_zero, List.take_zero, DskC.tear_nil, DskC.tear_nil]
  | r :: q, d :: l, s => by
    rw [DskC.tear, tear_take q l, show min (r :: q).length (d :: l).length = min q.length l.length + 1 by rw [List.length_cons, List.length_cons]; omega, List.take_succ_cons, List.take_succ_cons, DskC.tear]
theorem tear_size : ∀ (q : List (Int × ByteArray)) (l : List Int) (s : List ByteArray), (∀ p ∈ s, p.size = 256) → (∀ p ∈ q, p.2.size = 256 ∧ 0 ≤ p.1 ∧ p.1 < s.length) → ∀ p ∈ DskC.tear s q l, p.size = 256
  | [], l, s, h, _ => by cases l <;> exact h
  | r :: q, [], s, h, _ => h
  | r :: q, d :: l, s, h, h' => by
    rw [DskC.tear]
    have hr := h' r (by simp)
    refine tear_size q l _ (fun p hp => ?_) (fun p hp => by rw [List.length_set]; exact h' p (List.mem_cons_of_mem _ hp))
    rcases List.mem_or_eq_of_mem_set hp with hp | rfl
    · exact h p hp
    · exact DskC.torn_size _ _ (h _ (DskC.getD_mem (by omega))) hr.1 _
/-- What was written, as the disk keeps it. -/
def qs (m : List (Int × Int)) : List (Int × ByteArray) := m.map fun p => (p.1 % 4, DskP.fillB p.2)
/-- What a sector should be, behind the first i writes. -/
def wt (old : Nat → Int) (m : List (Int × Int)) (ch : List Int) (p k : Nat) : Nat → Int
  | 0 => old p
  | i + 1 => if (m.getD i (0, 0)).1 % 4 = (p : Int) ∧ (ch.getD i 0).toNat / 2 ^ k % 2 = 1 then (m.getD i (0, 0)).2 else wt old m ch p k i
theorem take_snoc {α : Type} (l : List α) (i : Nat) (d : α) (h : i < l.length) : l.take (i + 1) = l.take i ++ [l.getD i d] := by
  rw [List.take_add_one, List.getElem?_eq_getElem h, List.getD_eq_getElem?_getD, List.getElem?_eq_getElem h]; rfl
def S4 (old : Nat → Int) : List ByteArray := [DskP.fillB (old 0), DskP.fillB (old 1), DskP.fillB (old 2), DskP.fillB (old 3)]
theorem S4_size (old : Nat → Int) : ∀ p ∈ S4 old, p.size = 256 := by
  intro p hp
  simp only [S4, List.mem_cons, List.not_mem_nil, or_false] at hp
  rcases hp with rfl | rfl | rfl | rfl <;> exact DskP.fill_size _
theorem S4_at (old : Nat → Int) (p : Nat) (hp : p < 4) : (S4 old).getD p e0 = DskP.fillB (old p) := by
  match p, hp with
  | 0, _ => rfl
  | 1, _ => rfl
  | 2, _ => rfl
  | 3, _ => rfl
theorem qs_mem {m : List (Int × Int)} (hm : ∀ p ∈ m, 0 ≤ p.1) {r : Int × ByteArray} (h : r ∈ qs m) : r.2.size = 256 ∧ 0 ≤ r.1 ∧ r.1 < 4 := by
  unfold qs at h
  obtain ⟨p, hp, rfl⟩ := List.mem_map.1 h
  exact ⟨DskP.fill_size _, by show 0 ≤ p.1 % 4; omega, by show p.1 % 4 < 4; omega⟩
theorem sect_tear (old : Nat → Int) (m : List (Int × Int)) (hm : ∀ p ∈ m, 0 ≤ p.1) (ch : List Int) (p k : Nat) (hp : p < 4) (hk : k < 4) : ∀ i, i ≤ m.length → i ≤ ch.length → sect ((DskC.tear (S4 old) ((qs m).take i) (ch.take i)).getD p e0) k = one (wt old m ch p k i)
  | 0, _, _ => by
    rw [List.take_zero, List.take_zero, DskC.tear_nil, S4_at old p hp, sect_fill _ k hk]; rfl
  | i + 1, h1, h2 => by
    have hl : (qs m).length = m.length := List.length_map _
    have ih := sect_tear old m hm ch p k hp hk i (by omega) (by omega)
    rw [take_snoc (qs m) i z0 (by omega), take_snoc ch i 0 (by omega), tear_snoc _ _ _ _ _ (by rw [List.length_take, List.length_take]; omega)]
    have e : (qs m).getD i z0 = ((m.getD i (0, 0)).1 % 4, DskP.fillB (m.getD i (0, 0)).2) := by
      unfold qs
      rw [List.getD_eq_getElem?_getD, List.getD_eq_getElem?_getD, List.getElem?_map, List.getElem?_eq_getElem (show i < m.length by omega)]; rfl
    rw [e]
    have hmi : 0 ≤ (m.getD i (0, 0)).1 := by
      rw [List.getD_eq_getElem?_getD, List.getElem?_eq_getElem (show i < m.length by omega)]
      exact hm _ (List.getElem_mem _)
    have ht : (DskC.tear (S4 old) ((qs m).take i) (ch.take i)).length = 4 := (tear_length _ _ _).trans rfl
    have hsz : ((DskC.tear (S4 old) ((qs m).take i) (ch.take i)).getD p e0).size = 256 :=
      tear_size _ _ _ (S4_size old) (fun r hr => by have := qs_mem hm (List.mem_of_mem_take hr); exact ⟨this.1, this.2.1, by simpa [S4] using this.2.2⟩) _ (DskC.getD_mem (by omega))
    show sect (List.getD (List.set _ (((m.getD i (0, 0)).1 % 4).toNat) _) p e0) k = one (wt old m ch p k (i + 1))
    rw [wt]
    by_cases hq : (m.getD i (0, 0)).1 % 4 = (p : Int)
    · rw [hq, Int.toNat_natCast, List.getD_eq_getElem?_getD, List.getElem?_set_self (by omega)]
      show sect (DskU.tornB _ _ _) k = _
      rw [sect_torn _ _ hsz (DskP.fill_size _) _ k hk]
      by_cases hb : (ch.getD i 0).toNat / 2 ^ k % 2 = 1
      · rw [if_pos hb, if_pos ⟨rfl, hb⟩, sect_fill _ k hk]
      · rw [if_neg hb, if_neg (fun h => hb h.2)]
        exact ih
    · rw [if_neg (fun h => hq h.1), List.getD_eq_getElem?_getD, List.getElem?_set_ne (by omega), ← List.getD_eq_getElem?_getD]
      exact ih
end Go.Proofs.Ytbmhfmkfkdbmdaa.Dsk4P
end

section
/-
  wakes: what each step makes.
-/
namespace Go.Proofs.Ytbmhfmkfkdbmdaa.DskYF
open Go.RowKit Go.Proofs.YtbmhfmkfkdbmdaaW.PrintWords Go.Proofs.YtbmhfmkfkdbmdaaW.PrintLast Go.Proofs.YtbmhfmkfkdbmdaaW.PrintMore Go.Proofs.Ytbmhfmkfkdbmdaa.DskR Go.Proofs.Ytbmhfmkfkdbmdaa.DskQ Go.Proofs.Ytbmhfmkfkdbmdaa.DskX
set_option linter.unusedVariables false
set_option maxRecDepth 100000 in
theorem pg0_fill : DskG.pg0 = DskP.fillB 0 := by decide +kernel
set_option maxRecDepth 100000 in
theorem torn_fill : DskU.tornB (DskP.fillB 0) (DskP.fillB 7) 1 = (DskP.fillB 7).extract 0 64 ++ (DskP.fillB 0).extract 64 256 := by decide +kernel
section
variable {F0 F1 F7 Z : ByteArray}
theorem s1 (h0 : DskG.pg0 = F0) : DskH.gr ⟨[], [], 3, -1, false⟩ 2 = (0, ⟨[F0, F0], [], 3, -1, false⟩) := by subst h0; rfl
theorem s2 : DskH.gr ⟨[F0, F0], [], 3, -1, false⟩ 4 = (3, ⟨[F0, F0], [], 3, -1, false⟩) := by rfl
theorem s3 (h : F7.size = 256) : DskV.wr ⟨[F0, F0], [], 3, -1, false⟩ 1 F7 = (0, ⟨[F0, F0], [(1, F7)], 3, -1, false⟩) := by simp [DskV.wr, h]
theorem s4 : DskK.rd ⟨[F0, F0], [(1, F7)], 3, -1, false⟩ 1 = (F7, 0) := by simp [DskK.rd, DskJ.dat, DskJ.datK]
theorem s5 (h : DskU.tornB F0 F7 1 = Z) : DskC.crash ⟨[F0, F0], [(1, F7)], 3, -1, false⟩ [1] = ⟨[F0, Z], [], 3, -1, false⟩ := by subst h; rfl
theorem s6 : DskK.rd ⟨[F0, Z], [], 3, -1, false⟩ 1 = (Z, 0) := by simp [DskK.rd, DskJ.dat, DskJ.datK]
theorem s7 : ({ (⟨[F0, Z], [], 3, -1, false⟩ : Dk) with fuse := if (1 : Int) < -1 then -1 else 1 } : Dk) = ⟨[F0, Z], [], 3, 1, false⟩ := rfl
theorem s8 (h : F1.size = 256) : DskV.wr ⟨[F0, Z], [], 3, 1, false⟩ 0 F1 = (0, ⟨[F0, Z], [(0, F1)], 3, 0, false⟩) := by simp [DskV.wr, h]
theorem s9 : DskT.sy ⟨[F0, Z], [(0, F1)], 3, 0, false⟩ = (2, ⟨[F0, Z], [(0, F1)], 3, 0, true⟩) := rfl
theorem s10 : DskK.rd ⟨[F0, Z], [(0, F1)], 3, 0, true⟩ 0 = (⟨#[]⟩, 2) := rfl
theorem s11 : DskC.crash ⟨[F0, Z], [(0, F1)], 3, 0, true⟩ [] = ⟨[F0, Z], [], 3, -1, false⟩ := rfl
theorem s12 : DskK.rd ⟨[F0, Z], [], 3, -1, false⟩ 0 = (F0, 0) := by simp [DskK.rd, DskJ.dat, DskJ.datK]
end
theorem one_u8 (w : World) (v : Int) : Kd.C (Kd.int .u8) (w.alloc (.cells #[.int .u8 v] 5)) (some ⟨w.heap.size, 0, none⟩) 1 [v] := by
  refine ⟨rfl, by decide, fun _ => ⟨_, rfl, fun j p hp => ⟨[.int .u8 v], rfl, ?_, ?_⟩⟩⟩
  · obtain rfl : j = 0 := by
      have := (List.getElem?_eq_some_iff.1 hp).1
      simpa using this
    obtain rfl : v = p := by simpa using hp
    rfl
  · intro i u hu
    obtain rfl : j = 0 := by
      have := (List.getElem?_eq_some_iff.1 hp).1
      simpa using this
    have hi : i = 0 := by
      have := (List.getElem?_eq_some_iff.1 hu).1
      simpa using this
    subst hi
    obtain rfl : Value.int .u8 v = u := by simpa using hu
    exact (blk_cell (blk_new w _) 0)
end Go.Proofs.Ytbmhfmkfkdbmdaa.DskYF
end

section
/-
  wakes: its value is true.
-/
namespace Go.Proofs.Ytbmhfmkfkdbmdaa.DskY
open Go.RowKit Go.Proofs.YtbmhfmkfkdbmdaaW.PrintWords Go.Proofs.YtbmhfmkfkdbmdaaW.PrintLast Go.Proofs.YtbmhfmkfkdbmdaaW.PrintMore Go.Proofs.Ytbmhfmkfkdbmdaa.DskR Go.Proofs.Ytbmhfmkfkdbmdaa.DskQ Go.Proofs.Ytbmhfmkfkdbmdaa.DskX Go.Proofs.Ytbmhfmkfkdbmdaa.DskYF
set_option linter.unusedVariables false
set_option maxHeartbeats 8000000 in
set_option maxRecDepth 100000 in
theorem wakes_c (w : World) : Calls Try.prog 10 #[] w fun e w' => e = .returned (.bool true) ∧ Below w.heap.size w w' := by
  obtain ⟨F0, h0⟩ : ∃ F, F = DskP.fillB 0 := ⟨_, rfl⟩
  obtain ⟨F1, h1⟩ : ∃ F, F = DskP.fillB 1 := ⟨_, rfl⟩
  obtain ⟨F7, h7⟩ : ∃ F, F = DskP.fillB 7 := ⟨_, rfl⟩
  obtain ⟨Z, hz⟩ : ∃ Z, Z = F7.extract 0 64 ++ F0.extract 64 256 := ⟨_, rfl⟩
  have z0 : F0.size = 256 := by rw [h0]; exact DskP.fill_size 0
  have z1 : F1.size = 256 := by rw [h1]; exact DskP.fill_size 1
  have z7 : F7.size = 256 := by rw [h7]; exact DskP.fill_size 7
  have c0 : ∀ w, Calls Try.prog 14 #[.int .u8 0] w fun e w' => e = .returned (.string F0) ∧ Below w.heap.size w w' := fun w => by rw [h0]; exact DskP.fill_c 0 w
  have c1 : ∀ w, Calls Try.prog 14 #[.int .u8 1] w fun e w' => e = .returned (.string F1) ∧ Below w.heap.size w w' := fun w => by rw [h1]; exact DskP.fill_c 1 w
  have c7 : ∀ w, Calls Try.prog 14 #[.int .u8 7] w fun e w' => e = .returned (.string F7) ∧ Below w.heap.size w w' := fun w => by rw [h7]; exact DskP.fill_c 7 w
  have p0 : DskG.pg0 = F0 := by rw [h0]; exact pg0_fill
  have pz : DskU.tornB F0 F7 1 = Z := by rw [hz, h0, h7]; exact torn_fill
  have zz : Z.size = 256 := by rw [← pz]; exact DskC.torn_size F0 F7 z0 z7 1
  have ZZ := Aside0.mk zz
  have C0 := Aside0.mk c0
  have C1 := Aside0.mk c1
  have C7 := Aside0.mk c7
  have P0 := Aside0.mk p0
  have PZ := Aside0.mk pz
  have Z0 := Aside0.mk z0
  have Z1 := Aside0.mk z1
  have Z7 := Aside0.mk z7
  have HZ := Aside0.mk hz
  clear zz c0 c1 c7 p0 pz h0 h1 h7 z0 z1 z7 hz
  go_enter Try.func10, Try.ntmps10
  go_wp2_with (go_at_call 11; refine (new3 _).mono ?_; rintro e w1 ⟨D, rfl, hJ⟩; have HJ := Aside0.mk hJ; clear hJ)
  go_wp2_with (go_at_call 12; refine (j_grow HJ.out (by simp) (by simp) (by simp) 2 (s1 P0.out)).mono ?_; rintro e w2 ⟨rfl, hj⟩; have HJ2 := Aside0.mk hj; clear hj HJ)
  go_wp2_with (go_at_call 12; refine (j_grow HJ2.out (by simp) (by simp) (by simp) 4 s2).mono ?_; rintro e w3 ⟨rfl, hj⟩; have HJ3 := Aside0.mk hj; clear hj HJ2)
  go_wp2_with (go_at_call 14; refine (C7.out _).mono ?_; rintro e w4 ⟨rfl, hb⟩; have HJ4 := Aside0.mk (HJ3.out.below hb); clear hb HJ3)
  go_wp2_with (go_at_call 13; refine (j_write HJ4.out (by simp) (by simp) 1 F7 (s3 Z7.out)).mono ?_; rintro e w5 ⟨rfl, hj⟩; have HJ5 := Aside0.mk hj; clear hj HJ4)
  go_wp2_with (go_at_call 17; refine (j_read HJ5.out (by simp) 1 s4).mono ?_; rintro e w6 ⟨rfl, hj⟩; have HJ6 := Aside0.mk hj; clear hj HJ5)
  go_wp2_with (go_at_call 16; refine (j_crash (HJ6.out.below (below_alloc (Below.refl _ _) _)) (by simp) (by simp) (by simpa using Z0.out) (by simpa using Z7.out) (some ⟨_, 0, none⟩) 1 [1] (by simp) (one_u8 _ 1) (fun ad ha => .inr ⟨_, _, by obtain rfl := Option.some.inj ha; exact blk_new _ _⟩) (s5 PZ.out)).mono ?_; rintro e w7 ⟨rfl, hj⟩; have HJ7 := Aside0.mk hj; clear hj HJ6)
  go_wp2_with (go_at_call 17; refine (jn_read HJ7.out (by simp) 1 s6).mono ?_; rintro e w8 ⟨rfl, hj⟩; have HJ8 := Aside0.mk hj; clear hj HJ7)
  go_wp2_with (go_at_call 18; refine (j_fuse HJ8.out.toJ 1 s7).mono ?_; rintro e w9 ⟨rfl, hj⟩; have HJ9 := Aside0.mk hj; clear hj HJ8)
  go_wp2_with (go_at_call 14; refine (C1.out _).mono ?_; rintro e w10 ⟨rfl, hb⟩; have HJ10 := Aside0.mk (HJ9.out.below hb); clear hb HJ9)
  go_wp2_with (go_at_call 13; refine (j_write HJ10.out (by simp) (by simp) 0 F1 (s8 Z1.out)).mono ?_; rintro e w11 ⟨rfl, hj⟩; have HJ11 := Aside0.mk hj; clear hj HJ10)
  go_wp2_with (go_at_call 15; refine (j_sync HJ11.out (by simp) (by simp) (by simp) s9).mono ?_; rintro e w12 ⟨rfl, hj⟩; have HJ12 := Aside0.mk hj; clear hj HJ11)
  go_wp2_with (go_at_call 17; refine (j_read HJ12.out (by simp) 0 s10).mono ?_; rintro e w13 ⟨rfl, hj⟩; have HJ13 := Aside0.mk hj; clear hj HJ12)
  go_wp2_with (go_at_call 16; refine (j_crash HJ13.out (by simp) (by simp) (by simpa using ⟨Z0.out, ZZ.out⟩) (by simpa using Z1.out) none 0 [] (by simp) (Kd.C_nil _ _) (fun ad ha => nomatch ha) s11).mono ?_; rintro e w14 ⟨rfl, hj⟩; have HJ14 := Aside0.mk hj; clear hj HJ13)
  go_wp2_with (go_at_call 17; refine (jn_read HJ14.out (by simp) 0 s12).mono ?_; rintro e w15 ⟨rfl, hj⟩; have HJ15 := Aside0.mk hj; clear hj HJ14)
  have HC := Aside0.mk (show ∀ w', Cm.Calm w15 w' → JN w D ⟨[F0, Z], [], 3, -1, false⟩ w' from fun w' hc => HJ15.out.below hc.below)
  have HB := Aside0.mk HJ15.out.2
  have CL := Aside0.mk (show ∀ w', Cm.Calm w15 w' → Calls Try.prog 26 #[.pointer (some ⟨D, 0, none⟩)] w' fun e w2 => e = .returned (.int .i64 2) ∧ Below w'.heap.size w' w2 from fun w' hc => p_length (HC.out w' hc))
  have CM := Aside0.mk (show ∀ w', Cm.Calm w15 w' → Calls Try.prog 25 #[.pointer (some ⟨D, 0, none⟩)] w' fun e w2 => e = .returned (.int .i64 3) ∧ Below w'.heap.size w' w2 from fun w' hc => p_limit (HC.out w' hc))
  have CW := Aside0.mk (show ∀ w', Cm.Calm w15 w' → Calls Try.prog 19 #[.pointer (some ⟨D, 0, none⟩)] w' fun e w2 => e = .returned (.slice none 0 0) ∧ Below w'.heap.size w' w2 from fun w' hc => p_waiting (HC.out w' hc))
  have z7 := Z7.out
  have z0 := Z0.out
  have hz := HZ.out
  refine Cm.wp_region_calm_lit w15 (by kernel_rfl) (by kernel_rfl) (Cm.Calm.refl _) ?_
  simp only [List.append_eq, List.cons_append, List.nil_append]
  repeat (first | go_big_quiet_step (fail) | (refine wpQuiet_step (fun K hK => ?_); go_simp; first | (refine hK _ ?_; clear hK K) | (refine ⟨_, fun _ _ => rfl, hK _ ?_⟩; clear hK K) | (apply Exists.intro; refine ⟨fun _ hc_ => ?_, hK _ ?_⟩; (first | with_reducible exact Cm.Calm.call hc_ (C7.out _) | with_reducible exact Cm.Calm.call hc_ (C0.out _) | with_reducible exact Cm.Calm.call hc_ (CL.out _ hc_) | with_reducible exact Cm.Calm.call hc_ (CM.out _ hc_) | with_reducible exact Cm.Calm.call hc_ (CW.out _ hc_)); clear hK K)))
  refine wpQuiet_nil ?_
  intro w' hC
  go_wp2_with fail
  go_ret
  exact ⟨rfl, HB.out.trans (hC.below.mono HB.out.size)⟩
end Go.Proofs.Ytbmhfmkfkdbmdaa.DskY
end
