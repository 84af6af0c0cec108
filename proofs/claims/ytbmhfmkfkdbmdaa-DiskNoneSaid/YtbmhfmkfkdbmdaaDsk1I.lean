import Derived.Test.YtbmhfmkfkdbmdaaDskP
import Derived.Test.YtbmhfmkfkdbmdaaProg
import Derived.Test.YtbmhfmkfkdbmdaaCalm
import Derived.OpenShut
import Derived.ProofKit
import Derived.Deep.Strs
import Derived.ChangeOld
import Derived.SizedLaws
section
/-
  The disk's methods, one line each: a disk that stands above a world.
-/
namespace Go.Proofs.Ytbmhfmkfkdbmdaa.DskX
open Go.RowKit Go.Proofs.YtbmhfmkfkdbmdaaW.PrintWords Go.Proofs.YtbmhfmkfkdbmdaaW.PrintLast Go.Proofs.YtbmhfmkfkdbmdaaW.PrintMore Go.Proofs.Ytbmhfmkfkdbmdaa.DskR Go.Proofs.Ytbmhfmkfkdbmdaa.DskQ
set_option linter.unusedVariables false
/-- A disk that was made above W, and nothing below turned. -/
def J (W : World) (D : Nat) (x : Dk) (w : World) : Prop := (∃ vs vq, IsD w W.heap.size D vs vq x) ∧ Below W.heap.size W w
/-- .. where nothing waits in no row at all. -/
def JN (W : World) (D : Nat) (x : Dk) (w : World) : Prop := (∃ vs, IsD w W.heap.size D vs (.slice none 0 0) x) ∧ Below W.heap.size W w
section
variable {W w : World} {D : Nat} {x x' : Dk}
theorem JN.toJ (h : JN W D x w) : J W D x w := ⟨let ⟨vs, hd⟩ := h.1; ⟨vs, _, hd⟩, h.2⟩
theorem J.below (h : J W D x w) {w' : World} (hb : Below w.heap.size w w') : J W D x w' :=
  ⟨let ⟨vs, vq, hd⟩ := h.1; ⟨vs, vq, hd.below hb⟩, below_step h.2 hb⟩
theorem JN.below (h : JN W D x w) {w' : World} (hb : Below w.heap.size w w') : JN W D x w' :=
  ⟨let ⟨vs, hd⟩ := h.1; ⟨vs, hd.below hb⟩, below_step h.2 hb⟩
theorem J.of_post {vs vq : Value} (hd : IsD w W.heap.size D vs vq x) (hb : Below W.heap.size W w) {w' : World} (h : Post w W.heap.size D vs vq x' w') : J W D x' w' := by
  obtain ⟨vs', vq', h1, h2, _⟩ := h
  exact ⟨⟨vs', vq', h1⟩, hb.trans (h2.below hb.size (fun k hk => hd.own_ge hk))⟩
theorem new3 (W : World) : Calls Try.prog 11 #[.int .i64 3] W fun e w' => ∃ D, e = .returned (.tuple #[.pointer (some ⟨D, 0, none⟩), .bool true]) ∧ J W D ⟨[], [], 3, -1, false⟩ w' := by
  refine (DskF.new_c 3 W).mono ?_
  rintro e w' ⟨hb, h⟩
  rw [if_pos (by decide)] at h
  obtain ⟨D, vs, rfl, hd⟩ := h
  exact ⟨D, rfl, ⟨vs, _, hd⟩, hb⟩
theorem j_write (h : J W D x w) (hq : x.q.length < 1000000) (hu : x.fuse < 9223372036854775808) (at_ : Int) (s : ByteArray) {r : Int} (e : DskV.wr x at_ s = (r, x')) :
    Calls Try.prog 13 #[.pointer (some ⟨D, 0, none⟩), .int .i64 at_, .string s] w fun e w' => e = .returned (.int .i64 r) ∧ J W D x' w' := by
  obtain ⟨⟨vs, vq, hd⟩, hb⟩ := h
  refine (DskV.write_c hd hb.size hq hu at_ s).mono ?_
  rintro e' w' ⟨rfl, hp⟩
  rw [e] at hp ⊢
  exact ⟨rfl, J.of_post hd hb hp⟩
theorem j_sync (h : J W D x w) (hq : x.q.length < 1000000) (hg : ∀ p ∈ x.q, 0 ≤ p.1 ∧ p.1 < x.s.length) (hu : x.fuse < 9223372036854775808) {r : Int} (e : DskT.sy x = (r, x')) :
    Calls Try.prog 15 #[.pointer (some ⟨D, 0, none⟩)] w fun e w' => e = .returned (.int .i64 r) ∧ J W D x' w' := by
  obtain ⟨⟨vs, vq, hd⟩, hb⟩ := h
  refine (DskT.sync_c hd hb.size hq hg hu).mono ?_
  rintro e' w' ⟨rfl, hp⟩
  rw [e] at hp ⊢
  exact ⟨rfl, J.of_post hd hb hp⟩
theorem j_grow (h : J W D x w) (hx : x.s.length < 1000000) (hc : x.cap < 1000000) (hu : x.fuse < 9223372036854775808) (n : Int) {r : Int} (e : DskH.gr x n = (r, x')) :
    Calls Try.prog 12 #[.pointer (some ⟨D, 0, none⟩), .int .i64 n] w fun e w' => e = .returned (.int .i64 r) ∧ J W D x' w' := by
  obtain ⟨⟨vs, vq, hd⟩, hb⟩ := h
  refine (DskH.grow_c hd hb.size hx hc hu n).mono ?_
  rintro e' w' ⟨rfl, hp⟩
  rw [e] at hp ⊢
  exact ⟨rfl, J.of_post hd hb hp⟩
theorem j_fuse (h : J W D x w) (n : Int) (e : ({ x with fuse := if n < -1 then -1 else n } : Dk) = x') :
    Calls Try.prog 18 #[.pointer (some ⟨D, 0, none⟩), .int .i64 n] w fun e w' => e = .returned (.tuple #[]) ∧ J W D x' w' := by
  obtain ⟨⟨vs, vq, hd⟩, hb⟩ := h
  refine (DskM.fuse_c hd n).mono ?_
  rintro e' w' ⟨rfl, hp⟩
  rw [e] at hp
  exact ⟨rfl, J.of_post hd hb hp⟩
theorem j_read (h : J W D x w) (hq : x.q.length < 1000000) (at_ : Int) {s : ByteArray} {r : Int} (e : DskK.rd x at_ = (s, r)) :
    Calls Try.prog 17 #[.pointer (some ⟨D, 0, none⟩), .int .i64 at_] w fun e w' => e = .returned (.tuple #[.string s, .int .i64 r]) ∧ J W D x w' := by
  have hJ := h
  obtain ⟨⟨vs, vq, hd⟩, hb⟩ := h
  refine (DskK.read_c hd hq at_).mono ?_
  rintro e' w' ⟨rfl, hp⟩
  rw [e]
  exact ⟨rfl, hJ.below hp⟩
theorem jn_read (h : JN W D x w) (hq : x.q.length < 1000000) (at_ : Int) {s : ByteArray} {r : Int} (e : DskK.rd x at_ = (s, r)) :
    Calls Try.prog 17 #[.pointer (some ⟨D, 0, none⟩), .int .i64 at_] w fun e w' => e = .returned (.tuple #[.string s, .int .i64 r]) ∧ JN W D x w' := by
  have hJ := h
  obtain ⟨⟨vs, hd⟩, hb⟩ := h
  refine (DskK.read_c hd hq at_).mono ?_
  rintro e' w' ⟨rfl, hp⟩
  rw [e]
  exact ⟨rfl, hJ.below hp⟩
/-- The choice lies apart: below W, or not among the disk's blocks. -/
theorem j_crash (h : J W D x w) (hq : x.q.length < 1000000) (hg : ∀ p ∈ x.q, 0 ≤ p.1 ∧ p.1 < x.s.length) (hs6 : ∀ p ∈ x.s, p.size = 256) (hq6 : ∀ p ∈ x.q, p.2.size = 256) (CA : Option Addr) (cc : Nat) (l : List Int) (hl : ∀ c ∈ l, 0 ≤ c ∧ c < 256) (hr : Kd.C (Kd.int .u8) w CA l.length l)
    (hsep : ∀ ad, CA = some ad → ad.block < W.heap.size ∨ ∃ cs fz, w.heap[ad.block]? = some (.cells cs 5 fz)) (e : DskC.crash x l = x') :
    Calls Try.prog 16 #[.pointer (some ⟨D, 0, none⟩), .slice CA l.length cc] w fun e w' => e = .returned (.tuple #[]) ∧ JN W D x' w' := by
  obtain ⟨⟨vs, vq, hd⟩, hb⟩ := h
  refine (DskC.crash_c hd hq hg hs6 hq6 CA cc l hl hr (fun ad ha => ?_)).mono ?_
  · rcases hsep ad ha with h1 | ⟨cs, fz, h1⟩
    · exact ⟨fun hk => Nat.not_lt.2 (hd.own_ge hk) h1, Nat.lt_of_lt_of_le h1 hb.size⟩
    · refine ⟨fun hk => ?_, blk_lt h1⟩
      rcases hk with hk | hk | hk
      · rw [hk, hd.blk] at h1; simp at h1
      · exact DskW.ne_own hd.rs h1 (by decide) hk.symm
      · exact DskW.ne_own hd.rq h1 (by decide) hk.symm
  · rintro e' w' ⟨rfl, vs', h1, h2, _⟩
    rw [e] at h1
    exact ⟨rfl, ⟨vs', h1⟩, hb.trans (h2.below hb.size (fun k hk => hd.own_ge hk))⟩
theorem p_length (h : JN W D x w) : Calls Try.prog 26 #[.pointer (some ⟨D, 0, none⟩)] w fun e w' => e = .returned (.int .i64 (x.s.length : Int)) ∧ Below w.heap.size w w' := by
  obtain ⟨⟨vs, hd⟩, hb⟩ := h
  obtain ⟨A, c, e⟩ := DskV.form hd.rs
  exact DskM.length_c hd e
theorem p_limit (h : JN W D x w) : Calls Try.prog 25 #[.pointer (some ⟨D, 0, none⟩)] w fun e w' => e = .returned (.int .i64 x.cap) ∧ Below w.heap.size w w' := by
  obtain ⟨⟨vs, hd⟩, hb⟩ := h
  exact DskM.limit_c hd
theorem p_waiting (h : JN W D x w) : Calls Try.prog 19 #[.pointer (some ⟨D, 0, none⟩)] w fun e w' => e = .returned (.slice none 0 0) ∧ Below w.heap.size w w' := by
  obtain ⟨⟨vs, hd⟩, hb⟩ := h
  exact DskP.waiting_none hd
end
end Go.Proofs.Ytbmhfmkfkdbmdaa.DskX
end

section
/-
  wakes: what each step makes.
-/
namespace Go.Proofs.Ytbmhfmkfkdbmdaa.DskYF
open Go.RowKit Go.Proofs.YtbmhfmkfkdbmdaaW.PrintWords Go.Proofs.YtbmhfmkfkdbmdaaW.PrintLast Go.Proofs.YtbmhfmkfkdbmdaaW.PrintMore Go.Proofs.Ytbmhfmkfkdbmdaa.DskR Go.Proofs.Ytbmhfmkfkdbmdaa.DskQ Go.Proofs.Ytbmhfmkfkdbmdaa.DskX
set_option linter.unusedVariables false
set_option maxRecDepth 100000 in
theorem pg0_fill : DskG.pg0 = DskP.fillB 0 := by decide +kernel
set_option maxRecDepth 100000 in
theorem torn_fill : DskU.tornB (DskP.fillB 0) (DskP.fillB 7) 1 = (DskP.fillB 7).extract 0 64 ++ (DskP.fillB 0).extract 64 256 := by decide +kernel
section
variable {F0 F1 F7 Z : ByteArray}
theorem s1 (h0 : DskG.pg0 = F0) : DskH.gr ⟨[], [], 3, -1, false⟩ 2 = (0, ⟨[F0, F0], [], 3, -1, false⟩) := by subst h0; rfl
theorem s2 : DskH.gr ⟨[F0, F0], [], 3, -1, false⟩ 4 = (3, ⟨[F0, F0], [], 3, -1, false⟩) := by rfl
theorem s3 (h : F7.size = 256) : DskV.wr ⟨[F0, F0], [], 3, -1, false⟩ 1 F7 = (0, ⟨[F0, F0], [(1, F7)], 3, -1, false⟩) := by simp [DskV.wr, h]
theorem s4 : DskK.rd ⟨[F0, F0], [(1, F7)], 3, -1, false⟩ 1 = (F7, 0) := by simp [DskK.rd, DskJ.dat, DskJ.datK]
theorem s5 (h : DskU.tornB F0 F7 1 = Z) : DskC.crash ⟨[F0, F0], [(1, F7)], 3, -1, false⟩ [1] = ⟨[F0, Z], [], 3, -1, false⟩ := by subst h; rfl
theorem s6 : DskK.rd ⟨[F0, Z], [], 3, -1, false⟩ 1 = (Z, 0) := by simp [DskK.rd, DskJ.dat, DskJ.datK]
theorem s7 : ({ (⟨[F0, Z], [], 3, -1, false⟩ : Dk) with fuse := if (1 : Int) < -1 then -1 else 1 } : Dk) = ⟨[F0, Z], [], 3, 1, false⟩ := rfl
theorem s8 (h : F1.size = 256) : DskV.wr ⟨[F0, Z], [], 3, 1, false⟩ 0 F1 = (0, ⟨[F0, Z], [(0, F1)], 3, 0, false⟩) := by simp [DskV.wr, h]
theorem s9 : DskT.sy ⟨[F0, Z], [(0, F1)], 3, 0, false⟩ = (2, ⟨[F0, Z], [(0, F1)], 3, 0, true⟩) := rfl
theorem s10 : DskK.rd ⟨[F0, Z], [(0, F1)], 3, 0, true⟩ 0 = (⟨#[]⟩, 2) := rfl
theorem s11 : DskC.crash ⟨[F0, Z], [(0, F1)], 3, 0, true⟩ [] = ⟨[F0, Z], [], 3, -1, false⟩ := rfl
theorem s12 : DskK.rd ⟨[F0, Z], [], 3, -1, false⟩ 0 = (F0, 0) := by simp [DskK.rd, DskJ.dat, DskJ.datK]
end
theorem one_u8 (w : World) (v : Int) : Kd.C (Kd.int .u8) (w.alloc (.cells #[.int .u8 v] 5)) (some ⟨w.heap.size, 0, none⟩) 1 [v] := by
  refine ⟨rfl, by decide, fun _ => ⟨_, rfl, fun j p hp => ⟨[.int .u8 v], rfl, ?_, ?_⟩⟩⟩
  · obtain rfl : j = 0 := by
      have := (List.getElem?_eq_some_iff.1 hp).1
      simpa using this
    obtain rfl : v = p := by simpa using hp
    rfl
  · intro i u hu
    obtain rfl : j = 0 := by
      have := (List.getElem?_eq_some_iff.1 hp).1
      simpa using this
    have hi : i = 0 := by
      have := (List.getElem?_eq_some_iff.1 hu).1
      simpa using this
    subst hi
    obtain rfl : Value.int .u8 v = u := by simpa using hu
    exact (blk_cell (blk_new w _) 0)
end Go.Proofs.Ytbmhfmkfkdbmdaa.DskYF
end

section
/-
  wakes: its value is true.
-/
namespace Go.Proofs.Ytbmhfmkfkdbmdaa.DskY
open Go.RowKit Go.Proofs.YtbmhfmkfkdbmdaaW.PrintWords Go.Proofs.YtbmhfmkfkdbmdaaW.PrintLast Go.Proofs.YtbmhfmkfkdbmdaaW.PrintMore Go.Proofs.Ytbmhfmkfkdbmdaa.DskR Go.Proofs.Ytbmhfmkfkdbmdaa.DskQ Go.Proofs.Ytbmhfmkfkdbmdaa.DskX Go.Proofs.Ytbmhfmkfkdbmdaa.DskYF
set_option linter.unusedVariables false
set_option maxHeartbeats 8000000 in
set_option maxRecDepth 100000 in
theorem wakes_c (w : World) : Calls Try.prog 10 #[] w fun e w' => e = .returned (.bool true) ∧ Below w.heap.size w w' := by
  obtain ⟨F0, h0⟩ : ∃ F, F = DskP.fillB 0 := ⟨_, rfl⟩
  obtain ⟨F1, h1⟩ : ∃ F, F = DskP.fillB 1 := ⟨_, rfl⟩
  obtain ⟨F7, h7⟩ : ∃ F, F = DskP.fillB 7 := ⟨_, rfl⟩
  obtain ⟨Z, hz⟩ : ∃ Z, Z = F7.extract 0 64 ++ F0.extract 64 256 := ⟨_, rfl⟩
  have z0 : F0.size = 256 := by rw [h0]; exact DskP.fill_size 0
  have z1 : F1.size = 256 := by rw [h1]; exact DskP.fill_size 1
  have z7 : F7.size = 256 := by rw [h7]; exact DskP.fill_size 7
  have c0 : ∀ w, Calls Try.prog 14 #[.int .u8 0] w fun e w' => e = .returned (.string F0) ∧ Below w.heap.size w w' := fun w => by rw [h0]; exact DskP.fill_c 0 w
  have c1 : ∀ w, Calls Try.prog 14 #[.int .u8 1] w fun e w' => e = .returned (.string F1) ∧ Below w.heap.size w w' := fun w => by rw [h1]; exact DskP.fill_c 1 w
  have c7 : ∀ w, Calls Try.prog 14 #[.int .u8 7] w fun e w' => e = .returned (.string F7) ∧ Below w.heap.size w w' := fun w => by rw [h7]; exact DskP.fill_c 7 w
  have p0 : DskG.pg0 = F0 := by rw [h0]; exact pg0_fill
  have pz : DskU.tornB F0 F7 1 = Z := by rw [hz, h0, h7]; exact torn_fill
  have zz : Z.size = 256 := by rw [← pz]; exact DskC.torn_size F0 F7 z0 z7 1
  have ZZ := Aside0.mk zz
  have C0 := Aside0.mk c0
  have C1 := Aside0.mk c1
  have C7 := Aside0.mk c7
  have P0 := Aside0.mk p0
  have PZ := Aside0.mk pz
  have Z0 := Aside0.mk z0
  have Z1 := Aside0.mk z1
  have Z7 := Aside0.mk z7
  have HZ := Aside0.mk hz
  clear zz c0 c1 c7 p0 pz h0 h1 h7 z0 z1 z7 hz
  go_enter Try.func10, Try.ntmps10
  go_wp2_with (go_at_call 11; refine (new3 _).mono ?_; rintro e w1 ⟨D, rfl, hJ⟩; have HJ := Aside0.mk hJ; clear hJ)
  go_wp2_with (go_at_call 12; refine (j_grow HJ.out (by simp) (by simp) (by simp) 2 (s1 P0.out)).mono ?_; rintro e w2 ⟨rfl, hj⟩; have HJ2 := Aside0.mk hj; clear hj HJ)
  go_wp2_with (go_at_call 12; refine (j_grow HJ2.out (by simp) (by simp) (by simp) 4 s2).mono ?_; rintro e w3 ⟨rfl, hj⟩; have HJ3 := Aside0.mk hj; clear hj HJ2)
  go_wp2_with (go_at_call 14; refine (C7.out _).mono ?_; rintro e w4 ⟨rfl, hb⟩; have HJ4 := Aside0.mk (HJ3.out.below hb); clear hb HJ3)
  go_wp2_with (go_at_call 13; refine (j_write HJ4.out (by simp) (by simp) 1 F7 (s3 Z7.out)).mono ?_; rintro e w5 ⟨rfl, hj⟩; have HJ5 := Aside0.mk hj; clear hj HJ4)
  go_wp2_with (go_at_call 17; refine (j_read HJ5.out (by simp) 1 s4).mono ?_; rintro e w6 ⟨rfl, hj⟩; have HJ6 := Aside0.mk hj; clear hj HJ5)
  go_wp2_with (go_at_call 16; refine (j_crash (HJ6.out.below (below_alloc (Below.refl _ _) _)) (by simp) (by simp) (by simpa using Z0.out) (by simpa using Z7.out) (some ⟨_, 0, none⟩) 1 [1] (by simp) (one_u8 _ 1) (fun ad ha => .inr ⟨_, _, by obtain rfl := Option.some.inj ha; exact blk_new _ _⟩) (s5 PZ.out)).mono ?_; rintro e w7 ⟨rfl, hj⟩; have HJ7 := Aside0.mk hj; clear hj HJ6)
  go_wp2_with (go_at_call 17; refine (jn_read HJ7.out (by simp) 1 s6).mono ?_; rintro e w8 ⟨rfl, hj⟩; have HJ8 := Aside0.mk hj; clear hj HJ7)
  go_wp2_with (go_at_call 18; refine (j_fuse HJ8.out.toJ 1 s7).mono ?_; rintro e w9 ⟨rfl, hj⟩; have HJ9 := Aside0.mk hj; clear hj HJ8)
  go_wp2_with (go_at_call 14; refine (C1.out _).mono ?_; rintro e w10 ⟨rfl, hb⟩; have HJ10 := Aside0.mk (HJ9.out.below hb); clear hb HJ9)
  go_wp2_with (go_at_call 13; refine (j_write HJ10.out (by simp) (by simp) 0 F1 (s8 Z1.out)).mono ?_; rintro e w11 ⟨rfl, hj⟩; have HJ11 := Aside0.mk hj; clear hj HJ10)
  go_wp2_with (go_at_call 15; refine (j_sync HJ11.out (by simp) (by simp) (by simp) s9).mono ?_; rintro e w12 ⟨rfl, hj⟩; have HJ12 := Aside0.mk hj; clear hj HJ11)
  go_wp2_with (go_at_call 17; refine (j_read HJ12.out (by simp) 0 s10).mono ?_; rintro e w13 ⟨rfl, hj⟩; have HJ13 := Aside0.mk hj; clear hj HJ12)
  go_wp2_with (go_at_call 16; refine (j_crash HJ13.out (by simp) (by simp) (by simpa using ⟨Z0.out, ZZ.out⟩) (by simpa using Z1.out) none 0 [] (by simp) (Kd.C_nil _ _) (fun ad ha => nomatch ha) s11).mono ?_; rintro e w14 ⟨rfl, hj⟩; have HJ14 := Aside0.mk hj; clear hj HJ13)
  go_wp2_with (go_at_call 17; refine (jn_read HJ14.out (by simp) 0 s12).mono ?_; rintro e w15 ⟨rfl, hj⟩; have HJ15 := Aside0.mk hj; clear hj HJ14)
  have HC := Aside0.mk (show ∀ w', Cm.Calm w15 w' → JN w D ⟨[F0, Z], [], 3, -1, false⟩ w' from fun w' hc => HJ15.out.below hc.below)
  have HB := Aside0.mk HJ15.out.2
  have CL := Aside0.mk (show ∀ w', Cm.Calm w15 w' → Calls Try.prog 26 #[.pointer (some ⟨D, 0, none⟩)] w' fun e w2 => e = .returned (.int .i64 2) ∧ Below w'.heap.size w' w2 from fun w' hc => p_length (HC.out w' hc))
  have CM := Aside0.mk (show ∀ w', Cm.Calm w15 w' → Calls Try.prog 25 #[.pointer (some ⟨D, 0, none⟩)] w' fun e w2 => e = .returned (.int .i64 3) ∧ Below w'.heap.size w' w2 from fun w' hc => p_limit (HC.out w' hc))
  have CW := Aside0.mk (show ∀ w', Cm.Calm w15 w' → Calls Try.prog 19 #[.pointer (some ⟨D, 0, none⟩)] w' fun e w2 => e = .returned (.slice none 0 0) ∧ Below w'.heap.size w' w2 from fun w' hc => p_waiting (HC.out w' hc))
  have z7 := Z7.out
  have z0 := Z0.out
  have hz := HZ.out
  refine Cm.wp_region_calm_lit w15 (by kernel_rfl) (by kernel_rfl) (Cm.Calm.refl _) ?_
  simp only [List.append_eq, List.cons_append, List.nil_append]
  repeat (first | go_big_quiet_step (fail) | (refine wpQuiet_step (fun K hK => ?_); go_simp; first | (refine hK _ ?_; clear hK K) | (refine ⟨_, fun _ _ => rfl, hK _ ?_⟩; clear hK K) | (apply Exists.intro; refine ⟨fun _ hc_ => ?_, hK _ ?_⟩; (first | with_reducible exact Cm.Calm.call hc_ (C7.out _) | with_reducible exact Cm.Calm.call hc_ (C0.out _) | with_reducible exact Cm.Calm.call hc_ (CL.out _ hc_) | with_reducible exact Cm.Calm.call hc_ (CM.out _ hc_) | with_reducible exact Cm.Calm.call hc_ (CW.out _ hc_)); clear hK K)))
  refine wpQuiet_nil ?_
  intro w' hC
  go_wp2_with fail
  go_ret
  exact ⟨rfl, HB.out.trans (hC.below.mono HB.out.size)⟩
end Go.Proofs.Ytbmhfmkfkdbmdaa.DskY
end

section
/-
  DiskNone: a disk that nobody made has nothing.
-/
namespace Go.Proofs.Ytbmhfmkfkdbmdaa.Dsk1
open Go.RowKit Go.Proofs.YtbmhfmkfkdbmdaaW.PrintWords Go.Proofs.YtbmhfmkfkdbmdaaW.PrintLast Go.Proofs.YtbmhfmkfkdbmdaaW.PrintMore Go.Proofs.Ytbmhfmkfkdbmdaa.DskR Go.Proofs.Ytbmhfmkfkdbmdaa.DskQ
set_option linter.unusedVariables false
set_option maxHeartbeats 8000000 in
set_option maxRecDepth 100000 in
theorem walk (k a v : Int) (CA : Option Addr) (cl cc : Nat) (w : World) : Calls Try.prog 9 #[.agg #[.int .i64 k, .int .i64 a, .int .u8 v, .slice CA cl cc]] w fun e w' => e = .returned (.bool true) ∧ Below w.heap.size w w' := by
  obtain ⟨F, hF⟩ : ∃ F, F = DskP.fillB v := ⟨_, rfl⟩
  have C0 := Aside0.mk (show ∀ w, Calls Try.prog 14 #[.int .u8 v] w fun e w' => e = .returned (.string F) ∧ Below w.heap.size w w' from fun w => by rw [hF]; exact DskP.fill_c v w)
  clear hF
  go_enter Try.func9, Try.ntmps9
  go_wp2_with (go_at_call 17; refine (DskN.read_nil _ _).mono ?_; rintro e w1 ⟨rfl, hb⟩; have xb1 : w1.heap[w.heap.size]? = some (.cells #[.int .i64 k, .int .i64 a, .int .u8 v, .slice CA cl cc] 60 (0, 0)) := (hb.block w.heap.size (by simp)).trans (blk_new _ _); have B1 := Aside0.mk (show Below w.heap.size w w1 from (below_alloc (Below.refl _ _) _).trans (hb.mono (by simp))); clear hb; have a1 : w1.cell? ⟨w.heap.size, 1, none⟩ = some (.int .i64 a) := (blk_cell xb1 1).trans rfl; have v1 : w1.cell? ⟨w.heap.size, 2, none⟩ = some (.int .u8 v) := (blk_cell xb1 2).trans rfl; have l1 : w1.cell? ⟨w.heap.size, 3, none⟩ = some (.slice CA cl cc) := (blk_cell xb1 3).trans rfl; have lt1 : w.heap.size < w1.heap.size := blk_lt xb1; have XB1 := Aside0.mk xb1; have LT1 := Aside0.mk lt1; clear xb1 lt1)
  go_wp2_with (go_at_call 18; refine (DskN.fuse_nil _ _).mono ?_; rintro e w2 ⟨rfl, hb⟩; have xb2 : w2.heap[w.heap.size]? = some (.cells #[.int .i64 k, .int .i64 a, .int .u8 v, .slice CA cl cc] 60 (0, 0)) := (hb.block w.heap.size LT1.out).trans XB1.out; have B2 := Aside0.mk (B1.out.trans (hb.mono B1.out.size)); clear hb B1 a1 v1 l1 XB1 LT1; have a2 : w2.cell? ⟨w.heap.size, 1, none⟩ = some (.int .i64 a) := (blk_cell xb2 1).trans rfl; have v2 : w2.cell? ⟨w.heap.size, 2, none⟩ = some (.int .u8 v) := (blk_cell xb2 2).trans rfl; have l2 : w2.cell? ⟨w.heap.size, 3, none⟩ = some (.slice CA cl cc) := (blk_cell xb2 3).trans rfl; have lt2 : w.heap.size < w2.heap.size := blk_lt xb2; have XB2 := Aside0.mk xb2; have LT2 := Aside0.mk lt2; clear xb2 lt2)
  go_wp2_with (go_at_call 16; refine (DskN.crash_nil _ _).mono ?_; rintro e w3 ⟨rfl, hb⟩; have xb3 : w3.heap[w.heap.size]? = some (.cells #[.int .i64 k, .int .i64 a, .int .u8 v, .slice CA cl cc] 60 (0, 0)) := (hb.block w.heap.size LT2.out).trans XB2.out; have B3 := Aside0.mk (B2.out.trans (hb.mono B2.out.size)); clear hb B2 a2 v2 l2 XB2 LT2; have a3 : w3.cell? ⟨w.heap.size, 1, none⟩ = some (.int .i64 a) := (blk_cell xb3 1).trans rfl; have v3 : w3.cell? ⟨w.heap.size, 2, none⟩ = some (.int .u8 v) := (blk_cell xb3 2).trans rfl; have l3 : w3.cell? ⟨w.heap.size, 3, none⟩ = some (.slice CA cl cc) := (blk_cell xb3 3).trans rfl; have lt3 : w.heap.size < w3.heap.size := blk_lt xb3; have XB3 := Aside0.mk xb3; have LT3 := Aside0.mk lt3; clear xb3 lt3)
  have XA := Aside0.mk (show ∀ w', Cm.Calm w3 w' → w'.cell? ⟨w.heap.size, 1, none⟩ = some (.int .i64 a) from fun w' hc => (hc.below.cell LT3.out).trans a3)
  have XV := Aside0.mk (show ∀ w', Cm.Calm w3 w' → w'.cell? ⟨w.heap.size, 2, none⟩ = some (.int .u8 v) from fun w' hc => (hc.below.cell LT3.out).trans v3)
  refine Cm.wp_region_calm_lit w3 (by kernel_rfl) (by kernel_rfl) (Cm.Calm.refl _) ?_
  try simp only [List.append_eq, List.cons_append, List.nil_append]
  repeat (first | go_big_quiet_step (fail) | (refine wpQuiet_step (fun K hK => ?_); go_simp; first | (refine hK _ ?_; clear hK K) | (refine ⟨_, fun _ _ => rfl, hK _ ?_⟩; clear hK K) | (apply Exists.intro; refine ⟨fun _ hc_ => ?_, hK _ ?_⟩; (first | (have ha_ := XA.out _ hc_; go_simp; with_reducible rfl) | (have ha_ := XV.out _ hc_; go_simp; with_reducible rfl) | exact Cm.Calm.call hc_ (C0.out _) | exact Cm.Calm.call hc_ (DskN.write_nil _ _ _) | exact Cm.Calm.call hc_ (DskN.sync_nil _) | exact Cm.Calm.call hc_ (DskN.grow_nil _ _) | exact Cm.Calm.call hc_ (DskN.shrink_nil _ _) | exact Cm.Calm.call hc_ (DskN.length_nil _) | exact Cm.Calm.call hc_ (DskN.limit_nil _) | exact Cm.Calm.call hc_ (DskN.pages_nil _) | exact Cm.Calm.call hc_ (DskN.waiting_nil _) | exact Cm.Calm.call hc_ (DskY.wakes_c _)); clear hK K)))
  refine wpQuiet_nil ?_
  intro w' hC
  go_wp2_with fail
  go_ret
  exact ⟨rfl, B3.out.trans (hC.below.mono B3.out.size)⟩
end Go.Proofs.Ytbmhfmkfkdbmdaa.Dsk1
end

section
/-
  A Step as a row hands it: opened.
-/
namespace Go.Proofs.Ytbmhfmkfkdbmdaa.DskOp
open Go.ChangeShapes Go.WideShapes Go.ChangeAt Go.RowKit Go.Proofs.YtbmhfmkfkdbmdaaW.PrintWords Go.Proofs.YtbmhfmkfkdbmdaaW.PrintMore
set_option linter.unusedVariables false
set_option maxRecDepth 100000 in
theorem open_step {H : Type} {enc : TypeId × Value → H} {W : World} {base b0 : Nat} {sp : Nat → Bool} {held : Bool} {r : Reach} {v : Value} {d : DataW H} {p : List MemPlace}
    (hv : Value.okWide Try.prog W r b0 60 v) (h : DataW.Trod enc Try.prog W base sp held 60 v d p) :
    ∃ (a b c : Int) (e : Option Addr) (f g : Nat), v = .agg #[.int .i64 a, .int .i64 b, .int .u8 c, .slice e f g] := by
  obtain ⟨cs, rfl, hsz⟩ := okWide_struct Try.underlying60 hv
  obtain ⟨fuel, hf⟩ := h
  obtain ⟨xs, n, _, _, hl, hlen, hfs⟩ := DataW.trod_struct Try.underlying60 hf
  simp only [Value.cells] at hl hfs
  have c1 : Try.prog.cellsOf 3 = 1 := by kernel_rfl
  have c2 : Try.prog.cellsOf 5 = 1 := by kernel_rfl
  have c4 : Try.prog.cellsOf 23 = 1 := by kernel_rfl
  have c6 : Try.prog.cellsOf 60 = 4 := by kernel_rfl
  rw [c6] at hl
  match hcs : cs.toList, hl, xs, hlen with
  | [v0, v1, v2, v3], _, [y0, y1, y2, y3], _ =>
    rw [hcs] at hfs
    obtain ⟨x0, q0, _, w0⟩ := DataW.trod_int Try.underlying3 (hfs 0 _ rfl)
    obtain ⟨x1, q1, _, w1⟩ := DataW.trod_int Try.underlying3 (hfs 1 _ rfl)
    obtain ⟨x2, q2, _, w2⟩ := DataW.trod_int Try.underlying5 (hfs 2 _ rfl)
    have p0 : [v0] = [Value.int .i64 x0] := by have h := q0; change ([v0, v1, v2, v3].drop 0).take (Try.prog.cellsOf 3) = _ at h; rw [c1] at h; exact h
    have p1 : [v1] = [Value.int .i64 x1] := by have h := q1; change ([v0, v1, v2, v3].drop 1).take (Try.prog.cellsOf 3) = _ at h; rw [c1] at h; exact h
    have p2 : [v2] = [Value.int .u8 x2] := by have h := q2; change ([v0, v1, v2, v3].drop 2).take (Try.prog.cellsOf 5) = _ at h; rw [c2] at h; exact h
    have q3 := hfs 3 _ rfl
    change DataW.trod enc Try.prog W base sp held n 23 (([v0, v1, v2, v3].drop 3).take (Try.prog.cellsOf 23)) = some y3 at q3
    rw [c4] at q3
    change DataW.trod enc Try.prog W base sp held n 23 [v3] = some y3 at q3
    simp only [List.cons.injEq, and_true] at p0 p1 p2
    subst p0 p1 p2
    have ha : cs = #[.int .i64 x0, .int .i64 x1, .int .u8 x2, v3] := Array.toList_inj.1 hcs
    subst ha
    rcases open_ints Try.underlying23 Try.underlying5 c2 q3 with ⟨h5, _⟩ | ⟨x, len, cap, zs, h5, _⟩
    · simp only [List.cons.injEq, and_true] at h5
      subst h5
      exact ⟨x0, x1, x2, none, 0, 0, rfl⟩
    · simp only [List.cons.injEq, and_true] at h5
      subst h5
      exact ⟨x0, x1, x2, some x, len, cap, rfl⟩
end Go.Proofs.Ytbmhfmkfkdbmdaa.DskOp
end

section
/-
  DiskNone: for the row.
-/
end
