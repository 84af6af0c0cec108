import Derived.Test.YtbmhfmkfkdbmdaaDsk6R
import Derived.Deep.DeepMust
import Derived.Laws.AppendOwnNone
import Derived.Test.YtbmhfmkfkdbmdaaProg
import Derived.Test.YtbmhfmkfkdbmdaaCalm
import Derived.OpenShut
import Derived.ProofKit
import Derived.Deep.Strs
import Derived.Lib.SmallJoins
import Derived.ChangeOld
import Derived.SizedLaws
section
/-
  Pages: what is read, page by page.
-/
namespace Go.Proofs.Ytbmhfmkfkdbmdaa.DskPg
open Go.RowKit Go.Proofs.YtbmhfmkfkdbmdaaW.PrintWords Go.Proofs.YtbmhfmkfkdbmdaaW.PrintLast Go.Proofs.YtbmhfmkfkdbmdaaW.PrintMore Go.Proofs.Ytbmhfmkfkdbmdaa.DskR Go.Proofs.Ytbmhfmkfkdbmdaa.DskQ Go.Proofs.Ytbmhfmkfkdbmdaa.DskE
set_option linter.unusedVariables false
def pg (x : Dk) : List ByteArray := (List.range x.s.length).map (fun (i : Nat) => DskJ.dat x ((i : Nat) : Int))
theorem pg_length (x : Dk) : (pg x).length = x.s.length := by simp [pg]
theorem pg_take (x : Dk) (j : Nat) (h : j < x.s.length) : (pg x).take (j + 1) = (pg x).take j ++ [DskJ.dat x (j : Int)] := by
  rw [List.take_add_one, List.getElem?_eq_getElem (by rw [pg_length]; exact h)]
  simp [pg]
theorem pg_cur (x : Dk) (hq : ∀ p ∈ x.q, 0 ≤ p.1) : pg x = cur x := by
  refine List.ext_getElem? (fun i => ?_)
  by_cases h : i < x.s.length
  · rw [List.getElem?_eq_getElem (by rw [pg_length]; exact h), List.getElem?_eq_getElem (show i < (cur x).length by unfold cur; rw [put_length]; exact h)]
    have e := dat_cur x.s x.cap x.fuse x.down (i : Int) (by omega) (by omega) _ x.q rfl hq
    simp only [pg, List.getElem_map, List.getElem_range, Option.some.injEq]
    refine e.trans ?_
    rw [Int.toNat_natCast, List.getD_eq_getElem?_getD, List.getElem?_eq_getElem (show i < (DskQ.putAll x.s x.q).length by rw [put_length]; exact h)]
    rfl
  · rw [List.getElem?_eq_none (by rw [pg_length]; omega), List.getElem?_eq_none (show (cur x).length ≤ i by unfold cur; rw [put_length]; omega)]
section
variable {w : World} {B D : Nat} {vs vq : Value} {x : Dk}
set_option maxHeartbeats 4000000 in
set_option maxRecDepth 100000 in
theorem pages_c (h : IsD w B D vs vq x) (hB : B ≤ w.heap.size) (hx : x.s.length < 1000000) (hq : x.q.length < 1000000) :
    Calls Try.prog 24 #[.pointer (some ⟨D, 0, none⟩)] w fun e w' => ∃ v, e = .returned v ∧ w'.ownsRow w.heap.size 9 1 v x.s.length (sC (pg x)) ∧ Below w.heap.size w w' := by
  obtain ⟨i0, hi, hi0, hi1, hi2⟩ := info_parts (show (Try.prog.info? 9).map (fun i => (i.zero, i.size, i.bytes)) = some (some (.string (⟨#[]⟩ : ByteArray)), 1, 16) by kernel_rfl)
  obtain ⟨⟨c0, c1, c2, c3, c4⟩, f0, f1, f2, f3, f4⟩ := h.cells
  have HD := Aside0.mk h
  obtain ⟨A, c, rfl⟩ := DskV.form h.rs
  obtain ⟨n, hn⟩ : ∃ n, n = x.s.length := ⟨_, rfl⟩
  have HN := Aside0.mk hn
  have HQ := Aside0.mk hq
  have HX := Aside0.mk hx
  rw [← hn] at c0 ⊢
  clear h hB hx hq hn
  go_enter Try.func24, Try.ntmps24
  go_wp2_with fail
  go_loopg [3, 12] (n + 1) (fun gk v3 v12 w' => ∃ (j : Nat), v12 = .int .i64 (j : Int) ∧ Aside0 (gk + j = n + 1 ∧ j ≤ n) ∧ Aside0 (w'.ownsRow w.heap.size 9 1 v3 j (sC ((pg x).take j))) ∧ Aside0 (Below w.heap.size w w'))
  case atStart => exact ⟨0, rfl, ⟨rfl, Nat.zero_le _⟩, ⟨by rw [List.take_zero]; exact World.ownsRow_nil _ _ _ _⟩, ⟨Below.refl _ _⟩⟩
  case round =>
    obtain ⟨j, rfl, HK, HO, HB⟩ := hrel
    by_cases hj : j < n
    · have q1 : (j < n) = True := eq_true hj
      have q2 : ((j : Int) < (n : Int)) = True := eq_true (by omega)
      cases gk with
      | zero => exact absurd HK.out (by omega)
      | succ k1_ =>
      have HJ := Aside0.mk hj
      obtain ⟨s, hs⟩ : ∃ s, s = DskJ.dat x (j : Int) := ⟨_, rfl⟩
      have HS := Aside0.mk hs
      have CD := Aside0.mk (DskJ.data_c (HD.out.below HB.out) HQ.out (j : Int) (by omega) (by have := HN.out; omega))
      rw [← hs] at CD
      clear hj hs
      go_wp2_with (first | (go_at_call 45; go_must (refine CD.out.mono ?_; rintro e w5 ⟨rfl, hb⟩; have H5 := Aside0.mk hb; have HO5 := Aside0.mk (row_same HO.out (fun k hk => hb.block k (HO.out.lt k hk).2)); have HB5 := Aside0.mk (HB.out.trans (hb.mono HB.out.size)); clear hb)) | ((with_reducible refine gate_builtin (b := .append) (xs := #[.tmp 15, .tmp 19]) rfl ?_); at_builtin; go_must (refine wpList_append_own _ rfl (.tmp 15) (.tmp 19) 47 rfl w.heap.size 9 i0 _ 1 16 Try.underlying47 hi hi0 hi1 hi2 rfl (by decide) _ j _ rfl (row_same HO5.out (fun k hk => Below.heap_alloc w5 _ k (HO5.out.lt k hk).2)) ⟨w5.heap.size, 0, none⟩ 1 1 [.string s] rfl rfl (World.news_of_block (blk_new _ _)) (by simp [Value.oneCell']) (by have := HK.out; have := HN.out; have := HX.out; unfold maxLen; omega) (by have := HK.out; have := HN.out; have := HX.out; omega) (by have := HB5.out.size; simp; omega) ?_; intro v w6 ho hg hz; have HO6 := Aside0.mk ho; have HB6 := Aside0.mk ((HB5.out.trans (below_alloc (Below.refl _ _) _ |>.mono HB5.out.size)).trans ⟨hg.os, hg.tape, hg.output, hg.size, fun k hk => hg.block k (by have := HB5.out.size; simp; omega) (fun e => by have := (HO5.out.lt k e.symm).1; omega)⟩); clear ho hg hz)))
      go_roundg k1_
      case measure => omega
      case rel => exact ⟨j + 1, by first | rfl | (congr 1; have := HJ.out; have := HX.out; have := HN.out; unfold wrap64; omega), ⟨by have := HK.out; have := HJ.out; omega⟩, ⟨by have := HO6.out; rw [pg_take x j (by rw [← HN.out]; exact HJ.out), DskG.sC_snoc, ← HS.out]; exact this⟩, HB6⟩
    · have q1 : (j < n) = False := eq_false hj
      have q2 : ((j : Int) < (n : Int)) = False := eq_false (by omega)
      have hjn : j = n := by have := HK.out; omega
      clear hj
      go_wp2_with fail
      go_ret
      exact ⟨_, rfl, by have := HO.out; rw [hjn, List.take_of_length_le (by rw [pg_length, HN.out]; exact Nat.le_refl _)] at this; exact this, HB.out⟩
end
end Go.Proofs.Ytbmhfmkfkdbmdaa.DskPg
end

section
/-
  wakes: what each step makes.
-/
namespace Go.Proofs.Ytbmhfmkfkdbmdaa.DskYF
open Go.RowKit Go.Proofs.YtbmhfmkfkdbmdaaW.PrintWords Go.Proofs.YtbmhfmkfkdbmdaaW.PrintLast Go.Proofs.YtbmhfmkfkdbmdaaW.PrintMore Go.Proofs.Ytbmhfmkfkdbmdaa.DskR Go.Proofs.Ytbmhfmkfkdbmdaa.DskQ Go.Proofs.Ytbmhfmkfkdbmdaa.DskX
set_option linter.unusedVariables false
set_option maxRecDepth 100000 in
theorem pg0_fill : DskG.pg0 = DskP.fillB 0 := by decide +kernel
set_option maxRecDepth 100000 in
theorem torn_fill : DskU.tornB (DskP.fillB 0) (DskP.fillB 7) 1 = (DskP.fillB 7).extract 0 64 ++ (DskP.fillB 0).extract 64 256 := by decide +kernel
section
variable {F0 F1 F7 Z : ByteArray}
theorem s1 (h0 : DskG.pg0 = F0) : DskH.gr ⟨[], [], 3, -1, false⟩ 2 = (0, ⟨[F0, F0], [], 3, -1, false⟩) := by subst h0; rfl
theorem s2 : DskH.gr ⟨[F0, F0], [], 3, -1, false⟩ 4 = (3, ⟨[F0, F0], [], 3, -1, false⟩) := by rfl
theorem s3 (h : F7.size = 256) : DskV.wr ⟨[F0, F0], [], 3, -1, false⟩ 1 F7 = (0, ⟨[F0, F0], [(1, F7)], 3, -1, false⟩) := by simp [DskV.wr, h]
theorem s4 : DskK.rd ⟨[F0, F0], [(1, F7)], 3, -1, false⟩ 1 = (F7, 0) := by simp [DskK.rd, DskJ.dat, DskJ.datK]
theorem s5 (h : DskU.tornB F0 F7 1 = Z) : DskC.crash ⟨[F0, F0], [(1, F7)], 3, -1, false⟩ [1] = ⟨[F0, Z], [], 3, -1, false⟩ := by subst h; rfl
theorem s6 : DskK.rd ⟨[F0, Z], [], 3, -1, false⟩ 1 = (Z, 0) := by simp [DskK.rd, DskJ.dat, DskJ.datK]
theorem s7 : ({ (⟨[F0, Z], [], 3, -1, false⟩ : Dk) with fuse := if (1 : Int) < -1 then -1 else 1 } : Dk) = ⟨[F0, Z], [], 3, 1, false⟩ := rfl
theorem s8 (h : F1.size = 256) : DskV.wr ⟨[F0, Z], [], 3, 1, false⟩ 0 F1 = (0, ⟨[F0, Z], [(0, F1)], 3, 0, false⟩) := by simp [DskV.wr, h]
theorem s9 : DskT.sy ⟨[F0, Z], [(0, F1)], 3, 0, false⟩ = (2, ⟨[F0, Z], [(0, F1)], 3, 0, true⟩) := rfl
theorem s10 : DskK.rd ⟨[F0, Z], [(0, F1)], 3, 0, true⟩ 0 = (⟨#[]⟩, 2) := rfl
theorem s11 : DskC.crash ⟨[F0, Z], [(0, F1)], 3, 0, true⟩ [] = ⟨[F0, Z], [], 3, -1, false⟩ := rfl
theorem s12 : DskK.rd ⟨[F0, Z], [], 3, -1, false⟩ 0 = (F0, 0) := by simp [DskK.rd, DskJ.dat, DskJ.datK]
end
theorem one_u8 (w : World) (v : Int) : Kd.C (Kd.int .u8) (w.alloc (.cells #[.int .u8 v] 5)) (some ⟨w.heap.size, 0, none⟩) 1 [v] := by
  refine ⟨rfl, by decide, fun _ => ⟨_, rfl, fun j p hp => ⟨[.int .u8 v], rfl, ?_, ?_⟩⟩⟩
  · obtain rfl : j = 0 := by
      have := (List.getElem?_eq_some_iff.1 hp).1
      simpa using this
    obtain rfl : v = p := by simpa using hp
    rfl
  · intro i u hu
    obtain rfl : j = 0 := by
      have := (List.getElem?_eq_some_iff.1 hp).1
      simpa using this
    have hi : i = 0 := by
      have := (List.getElem?_eq_some_iff.1 hu).1
      simpa using this
    subst hi
    obtain rfl : Value.int .u8 v = u := by simpa using hu
    exact (blk_cell (blk_new w _) 0)
end Go.Proofs.Ytbmhfmkfkdbmdaa.DskYF
end

section
/-
  wakes: its value is true.
-/
namespace Go.Proofs.Ytbmhfmkfkdbmdaa.DskY
open Go.RowKit Go.Proofs.YtbmhfmkfkdbmdaaW.PrintWords Go.Proofs.YtbmhfmkfkdbmdaaW.PrintLast Go.Proofs.YtbmhfmkfkdbmdaaW.PrintMore Go.Proofs.Ytbmhfmkfkdbmdaa.DskR Go.Proofs.Ytbmhfmkfkdbmdaa.DskQ Go.Proofs.Ytbmhfmkfkdbmdaa.DskX Go.Proofs.Ytbmhfmkfkdbmdaa.DskYF
set_option linter.unusedVariables false
set_option maxHeartbeats 8000000 in
set_option maxRecDepth 100000 in
theorem wakes_c (w : World) : Calls Try.prog 10 #[] w fun e w' => e = .returned (.bool true) ∧ Below w.heap.size w w' := by
  obtain ⟨F0, h0⟩ : ∃ F, F = DskP.fillB 0 := ⟨_, rfl⟩
  obtain ⟨F1, h1⟩ : ∃ F, F = DskP.fillB 1 := ⟨_, rfl⟩
  obtain ⟨F7, h7⟩ : ∃ F, F = DskP.fillB 7 := ⟨_, rfl⟩
  obtain ⟨Z, hz⟩ : ∃ Z, Z = F7.extract 0 64 ++ F0.extract 64 256 := ⟨_, rfl⟩
  have z0 : F0.size = 256 := by rw [h0]; exact DskP.fill_size 0
  have z1 : F1.size = 256 := by rw [h1]; exact DskP.fill_size 1
  have z7 : F7.size = 256 := by rw [h7]; exact DskP.fill_size 7
  have c0 : ∀ w, Calls Try.prog 14 #[.int .u8 0] w fun e w' => e = .returned (.string F0) ∧ Below w.heap.size w w' := fun w => by rw [h0]; exact DskP.fill_c 0 w
  have c1 : ∀ w, Calls Try.prog 14 #[.int .u8 1] w fun e w' => e = .returned (.string F1) ∧ Below w.heap.size w w' := fun w => by rw [h1]; exact DskP.fill_c 1 w
  have c7 : ∀ w, Calls Try.prog 14 #[.int .u8 7] w fun e w' => e = .returned (.string F7) ∧ Below w.heap.size w w' := fun w => by rw [h7]; exact DskP.fill_c 7 w
  have p0 : DskG.pg0 = F0 := by rw [h0]; exact pg0_fill
  have pz : DskU.tornB F0 F7 1 = Z := by rw [hz, h0, h7]; exact torn_fill
  have zz : Z.size = 256 := by rw [← pz]; exact DskC.torn_size F0 F7 z0 z7 1
  have ZZ := Aside0.mk zz
  have C0 := Aside0.mk c0
  have C1 := Aside0.mk c1
  have C7 := Aside0.mk c7
  have P0 := Aside0.mk p0
  have PZ := Aside0.mk pz
  have Z0 := Aside0.mk z0
  have Z1 := Aside0.mk z1
  have Z7 := Aside0.mk z7
  have HZ := Aside0.mk hz
  clear zz c0 c1 c7 p0 pz h0 h1 h7 z0 z1 z7 hz
  go_enter Try.func10, Try.ntmps10
  go_wp2_with (go_at_call 11; refine (new3 _).mono ?_; rintro e w1 ⟨D, rfl, hJ⟩; have HJ := Aside0.mk hJ; clear hJ)
  go_wp2_with (go_at_call 12; refine (j_grow HJ.out (by simp) (by simp) (by simp) 2 (s1 P0.out)).mono ?_; rintro e w2 ⟨rfl, hj⟩; have HJ2 := Aside0.mk hj; clear hj HJ)
  go_wp2_with (go_at_call 12; refine (j_grow HJ2.out (by simp) (by simp) (by simp) 4 s2).mono ?_; rintro e w3 ⟨rfl, hj⟩; have HJ3 := Aside0.mk hj; clear hj HJ2)
  go_wp2_with (go_at_call 14; refine (C7.out _).mono ?_; rintro e w4 ⟨rfl, hb⟩; have HJ4 := Aside0.mk (HJ3.out.below hb); clear hb HJ3)
  go_wp2_with (go_at_call 13; refine (j_write HJ4.out (by simp) (by simp) 1 F7 (s3 Z7.out)).mono ?_; rintro e w5 ⟨rfl, hj⟩; have HJ5 := Aside0.mk hj; clear hj HJ4)
  go_wp2_with (go_at_call 17; refine (j_read HJ5.out (by simp) 1 s4).mono ?_; rintro e w6 ⟨rfl, hj⟩; have HJ6 := Aside0.mk hj; clear hj HJ5)
  go_wp2_with (go_at_call 16; refine (j_crash (HJ6.out.below (below_alloc (Below.refl _ _) _)) (by simp) (by simp) (by simpa using Z0.out) (by simpa using Z7.out) (some ⟨_, 0, none⟩) 1 [1] (by simp) (one_u8 _ 1) (fun ad ha => .inr ⟨_, _, by obtain rfl := Option.some.inj ha; exact blk_new _ _⟩) (s5 PZ.out)).mono ?_; rintro e w7 ⟨rfl, hj⟩; have HJ7 := Aside0.mk hj; clear hj HJ6)
  go_wp2_with (go_at_call 17; refine (jn_read HJ7.out (by simp) 1 s6).mono ?_; rintro e w8 ⟨rfl, hj⟩; have HJ8 := Aside0.mk hj; clear hj HJ7)
  go_wp2_with (go_at_call 18; refine (j_fuse HJ8.out.toJ 1 s7).mono ?_; rintro e w9 ⟨rfl, hj⟩; have HJ9 := Aside0.mk hj; clear hj HJ8)
  go_wp2_with (go_at_call 14; refine (C1.out _).mono ?_; rintro e w10 ⟨rfl, hb⟩; have HJ10 := Aside0.mk (HJ9.out.below hb); clear hb HJ9)
  go_wp2_with (go_at_call 13; refine (j_write HJ10.out (by simp) (by simp) 0 F1 (s8 Z1.out)).mono ?_; rintro e w11 ⟨rfl, hj⟩; have HJ11 := Aside0.mk hj; clear hj HJ10)
  go_wp2_with (go_at_call 15; refine (j_sync HJ11.out (by simp) (by simp) (by simp) s9).mono ?_; rintro e w12 ⟨rfl, hj⟩; have HJ12 := Aside0.mk hj; clear hj HJ11)
  go_wp2_with (go_at_call 17; refine (j_read HJ12.out (by simp) 0 s10).mono ?_; rintro e w13 ⟨rfl, hj⟩; have HJ13 := Aside0.mk hj; clear hj HJ12)
  go_wp2_with (go_at_call 16; refine (j_crash HJ13.out (by simp) (by simp) (by simpa using ⟨Z0.out, ZZ.out⟩) (by simpa using Z1.out) none 0 [] (by simp) (Kd.C_nil _ _) (fun ad ha => nomatch ha) s11).mono ?_; rintro e w14 ⟨rfl, hj⟩; have HJ14 := Aside0.mk hj; clear hj HJ13)
  go_wp2_with (go_at_call 17; refine (jn_read HJ14.out (by simp) 0 s12).mono ?_; rintro e w15 ⟨rfl, hj⟩; have HJ15 := Aside0.mk hj; clear hj HJ14)
  have HC := Aside0.mk (show ∀ w', Cm.Calm w15 w' → JN w D ⟨[F0, Z], [], 3, -1, false⟩ w' from fun w' hc => HJ15.out.below hc.below)
  have HB := Aside0.mk HJ15.out.2
  have CL := Aside0.mk (show ∀ w', Cm.Calm w15 w' → Calls Try.prog 26 #[.pointer (some ⟨D, 0, none⟩)] w' fun e w2 => e = .returned (.int .i64 2) ∧ Below w'.heap.size w' w2 from fun w' hc => p_length (HC.out w' hc))
  have CM := Aside0.mk (show ∀ w', Cm.Calm w15 w' → Calls Try.prog 25 #[.pointer (some ⟨D, 0, none⟩)] w' fun e w2 => e = .returned (.int .i64 3) ∧ Below w'.heap.size w' w2 from fun w' hc => p_limit (HC.out w' hc))
  have CW := Aside0.mk (show ∀ w', Cm.Calm w15 w' → Calls Try.prog 19 #[.pointer (some ⟨D, 0, none⟩)] w' fun e w2 => e = .returned (.slice none 0 0) ∧ Below w'.heap.size w' w2 from fun w' hc => p_waiting (HC.out w' hc))
  have z7 := Z7.out
  have z0 := Z0.out
  have hz := HZ.out
  refine Cm.wp_region_calm_lit w15 (by kernel_rfl) (by kernel_rfl) (Cm.Calm.refl _) ?_
  simp only [List.append_eq, List.cons_append, List.nil_append]
  repeat (first | go_big_quiet_step (fail) | (refine wpQuiet_step (fun K hK => ?_); go_simp; first | (refine hK _ ?_; clear hK K) | (refine ⟨_, fun _ _ => rfl, hK _ ?_⟩; clear hK K) | (apply Exists.intro; refine ⟨fun _ hc_ => ?_, hK _ ?_⟩; (first | with_reducible exact Cm.Calm.call hc_ (C7.out _) | with_reducible exact Cm.Calm.call hc_ (C0.out _) | with_reducible exact Cm.Calm.call hc_ (CL.out _ hc_) | with_reducible exact Cm.Calm.call hc_ (CM.out _ hc_) | with_reducible exact Cm.Calm.call hc_ (CW.out _ hc_)); clear hK K)))
  refine wpQuiet_nil ?_
  intro w' hC
  go_wp2_with fail
  go_ret
  exact ⟨rfl, HB.out.trans (hC.below.mono HB.out.size)⟩
end Go.Proofs.Ytbmhfmkfkdbmdaa.DskY
end

section
/-
  DiskFrom: a disk from pages has them.
-/
namespace Go.Proofs.Ytbmhfmkfkdbmdaa.Dsk6
open Go.RowKit Go.Proofs.YtbmhfmkfkdbmdaaW.PrintWords Go.Proofs.YtbmhfmkfkdbmdaaW.PrintLast Go.Proofs.YtbmhfmkfkdbmdaaW.PrintMore Go.Proofs.Ytbmhfmkfkdbmdaa.DskR Go.Proofs.Ytbmhfmkfkdbmdaa.DskQ Go.Proofs.Ytbmhfmkfkdbmdaa.DskX Go.Proofs.Ytbmhfmkfkdbmdaa.DskE
set_option linter.unusedVariables false
theorem rd_at (l : List ByteArray) (c : Int) (i : Nat) (h : i < l.length) : DskK.rd ⟨l, [], c, -1, false⟩ (i : Int) = (l[i], 0) := by
  rw [rd_cur ⟨l, [], c, -1, false⟩ rfl (fun p (h : p ∈ ([] : List (Int × ByteArray))) => by cases h) (i : Int) (by omega) (show (i : Int) < (l.length : Int) by omega), Int.toNat_natCast]
  show (l.getD i e0, (0 : Int)) = _
  rw [List.getD_eq_getElem?_getD, List.getElem?_eq_getElem h]; rfl
theorem rd_end (l : List ByteArray) (c : Int) : DskK.rd ⟨l, [], c, -1, false⟩ (l.length : Int) = ((⟨#[]⟩ : ByteArray), 4) := by
  unfold DskK.rd
  rw [if_neg (fun h => by cases h), if_pos (show ¬ ((0 : Int) ≤ (l.length : Int) ∧ (l.length : Int) < (l.length : Int)) by omega)]
theorem okD_range {l : List ByteArray} {limit : Int} (h : DskF.okD l limit = true) : 1 ≤ limit ∧ limit ≤ 200 ∧ (l.length : Int) ≤ limit := by
  unfold DskF.okD at h
  simp only [Bool.and_eq_true, decide_eq_true_eq] at h
  exact ⟨h.1.1.1, h.1.1.2, h.1.2⟩
/-- A row of texts behind an empty one of one's own. -/
theorem app_any {w : World} {ops : Array Oper} {rest : List Oper} {o : Oper} {a : Act} {Q : Exit → Act → World → Prop} (hgd : o.guard = none) (s x : Operand) (ho : o.op = .call { callee := .builtin .append, args := #[s, x], argTypes := #[47, 47] })
    {i0 : TypeInfo} (hj : Try.prog.info? 9 = some i0) (hj0 : i0.zero = some (.string (⟨#[]⟩ : ByteArray))) (hj1 : i0.size = 1) (hj2 : i0.bytes = 16) (base : Nat) (V : Value) (hs : a.eval s = V) (hown : w.ownsRow base 9 1 V 0 []) (hbase : base ≤ w.heap.size)
    (A : Option Addr) (n c : Nat) (l : List ByteArray) (hx : a.eval x = .slice A n c) (hn : n = l.length) (hr : Kd.C Kd.string w A l.length l) (hc : A = none → c = 0) (hl : n ≤ 100000)
    (h : ∀ v w', w'.ownsRow base 9 1 v n (sC l) → w.grownBy w' V.ownBlock → wpList Try.prog ops Q rest (a.put o.dst v) w') : wpList Try.prog ops Q (o :: rest) a w := by
  cases A with
  | none =>
    have hn0 : n = 0 := by
      rcases Nat.eq_zero_or_pos n with h | h
      · exact h
      · obtain ⟨x, hx, _⟩ := hr.2.2 (by omega)
        cases hx
    have hcc := hc rfl
    subst hcc
    subst hn0
    obtain rfl : l = [] := List.eq_nil_of_length_eq_zero hn.symm
    exact wpList_append_own_none hgd s x 47 ho base 9 i0 1 Try.underlying47 hj V 0 [] hs hown hx (h V w hown (World.grownBy.refl _ _))
  | some ad =>
    refine wpList_append_own w hgd s x 47 ho base 9 i0 _ 1 16 Try.underlying47 hj hj0 hj1 hj2 rfl (by decide) V 0 [] hs hown ad n c (sC l) hx (by rw [sC_length, hn]; omega) (Dsk6R.news_of hr) (Dsk6R.sC_cell l) (by unfold maxLen; omega) (by omega) hbase ?_
    intro v w' ho' hg _
    rw [Nat.zero_add, List.nil_append] at ho'
    exact h v w' ho' hg
set_option maxHeartbeats 16000000 in
set_option maxRecDepth 100000 in
theorem walk (A : Option Addr) (c : Nat) (l : List ByteArray) (limit : Int) (w : World) (hr : Kd.C Kd.string w A l.length l) (hc : l.length ≤ c) (hc0 : A = none → c = 0) :
    Calls Try.prog 6 #[.slice A l.length c, .int .i64 limit] w fun e w' => e = .returned (.bool true) ∧ Below w.heap.size w w' := by
  obtain ⟨i0, hj, hj0, hj1, hj2⟩ := info_parts (show (Try.prog.info? 9).map (fun i => (i.zero, i.size, i.bytes)) = some (some (.string (⟨#[]⟩ : ByteArray)), 1, 16) by kernel_rfl)
  obtain ⟨bl, hbl, hlong⟩ := DskTx.long_loop l 60003 0 0 (Nat.le_refl _) (by omega) (by omega)
  have HR := Aside0.mk hr
  have HC := Aside0.mk hc
  have HC0 := Aside0.mk hc0
  have CL := Aside0.mk (PDsk.umbelkeep_Long.calls 60003 A c l 60000 bl w hr hc hbl)
  have HLG := Aside0.mk hlong
  obtain ⟨n, hn⟩ : ∃ n, n = l.length := ⟨_, rfl⟩
  have HN := Aside0.mk hn
  rw [← hn] at CL ⊢
  clear hr hc hc0 hn hbl hlong
  go_enter Try.func6, Try.ntmps6
  cases bl with
  | true =>
    go_wp2_with (first | (go_at_call 20; go_must (refine CL.out.mono ?_; rintro e w1 ⟨rfl, hb⟩; have HB1 := Aside0.mk hb; clear hb)) | (go_at_call 10; refine (DskY.wakes_c _).mono ?_; rintro e w2 ⟨rfl, hb⟩; have HB2 := Aside0.mk (HB1.out.trans (hb.mono HB1.out.size)); clear hb))
    go_ret
    exact ⟨rfl, HB2.out⟩
  | false =>
  have HL := Aside0.mk (show n ≤ 60000 by rw [HN.out]; exact HLG.out rfl)
  go_wp2_with (first | (go_at_call 20; go_must (refine CL.out.mono ?_; rintro e w1 ⟨rfl, hb⟩; have HB1 := Aside0.mk hb; clear hb; have HS1 := Aside0.mk (show w.heap.size ≤ (w1.alloc (.cells #[] 9)).heap.size by have := HB1.out.size; simp; omega); have HO1 := Aside0.mk (show ((w1.alloc (.cells #[] 9)).ownsRow w1.heap.size 9 1 (.slice (some ⟨w1.heap.size, 0, none⟩) 0 0) 0 []) from ⟨rfl, .inr ⟨_, 0, #[], rfl, Nat.le_refl _, blk_new _ _, by omega, by decide, rfl, rfl⟩⟩); have HB1a := Aside0.mk (HB1.out.trans (below_alloc (Below.refl _ _) (.cells #[] 9) |>.mono HB1.out.size)))) |
    ((with_reducible refine gate_builtin (b := .append) (xs := #[.tmp 18, .tmp 19]) rfl ?_); at_builtin; go_must (refine app_any rfl (.tmp 18) (.tmp 19) rfl hj hj0 hj1 hj2 w1.heap.size _ rfl HO1.out (by simp) A n c l rfl HN.out (Kd.C_below HR.out HB1a.out) HC0.out (by have := HL.out; omega) ?_; intro v w2 ho hg; obtain ⟨gv, cv, rfl⟩ := DskV.form ho; have HO2 := Aside0.mk ho; have HB2 := Aside0.mk (show Below w.heap.size w w2 from HB1a.out.trans ⟨hg.os, hg.tape, hg.output, hg.size, fun k hk => hg.block k (Nat.lt_of_lt_of_le hk HS1.out) (fun e => by have e1 : k = w1.heap.size := Option.some.inj e; have := HB1.out.size; omega)⟩); have HZ2 := Aside0.mk (show w1.heap.size ≤ w2.heap.size from by have := hg.size; simp at this; omega); clear ho hg)))
  obtain ⟨A2, c2, hv2, h2c, hk2⟩ := DskTx.kd_row HO2.out HN.out.symm
  have HK2 := Aside0.mk hk2
  have CF := DskF.from_c A2 c2 l limit w2 hk2
  rw [← hv2] at CF
  have CF2 := Aside0.mk CF
  have CRF := Dsk6R.rfrom_c A c l limit
  rw [← HN.out] at CRF
  have CR2 := Aside0.mk CRF
  clear hk2 CF CRF hv2 h2c
  by_cases hok : DskF.okD l limit = true
  rotate_left
  · have hno := Bool.eq_false_iff.2 hok
    have HNO := Aside0.mk hno
    clear hno hok
    go_wp2_with (first | (go_at_call 21; go_must (refine CF2.out.mono ?_; rintro e w3 ⟨hb, hm⟩; rw [if_neg (by rw [HNO.out]; decide)] at hm; subst hm; have HB3 := Aside0.mk (HB2.out.trans (hb.mono HB2.out.size)); clear hb)) | (go_at_call 22; go_must (refine (CR2.out w3 (by rw [HN.out]; exact Kd.C_below HR.out HB3.out) (by have := HL.out; omega) HC0.out).mono ?_; rw [HNO.out]; rintro e w4 ⟨v4, rfl, hb⟩; have HB4 := Aside0.mk (HB3.out.trans (hb.mono HB3.out.size)); clear hb)) | (go_at_call 10; refine (DskY.wakes_c _).mono ?_; rintro e w5 ⟨rfl, hb⟩; have HB5 := Aside0.mk (HB4.out.trans (hb.mono HB4.out.size)); clear hb))
    go_ret
    exact ⟨rfl, HB5.out⟩
  have HYES := Aside0.mk hok
  have HRG := Aside0.mk (okD_range hok)
  clear hok
  go_wp2_with (first | (go_at_call 21; go_must (refine CF2.out.mono ?_; rintro e w3 ⟨hb, hm⟩; rw [if_pos HYES.out] at hm; obtain ⟨D, vs, rfl, hd⟩ := hm; have HB3 := Aside0.mk (HB2.out.trans (hb.mono HB2.out.size)); have HD3 := Aside0.mk hd; have HO3 := Aside0.mk (row_same HO2.out (fun k hk => hb.block k (HO2.out.lt k hk).2)); have HZ3 := Aside0.mk hb.size; clear hb hd)) | (go_at_call 22; go_must (refine (CR2.out w3 (by rw [HN.out]; exact Kd.C_below HR.out HB3.out) (by have := HL.out; omega) HC0.out).mono ?_; rw [HYES.out]; rintro e w4 ⟨v4, rfl, hb⟩; have HB4 := Aside0.mk (HB3.out.trans (hb.mono HB3.out.size)); have HD4 := Aside0.mk (HD3.out.below hb); have HO4 := Aside0.mk (row_same HO3.out (fun k hk => hb.block k (HO3.out.lt k hk).2)); have HZ4 := Aside0.mk (Nat.le_trans HZ3.out hb.size); clear hb)))
  go_loopg [10] (n + 1) (fun gk v10 w' => ∃ (i : Nat), v10 = .int .i64 (i : Int) ∧ Aside0 (gk + i = n + 1 ∧ i ≤ n) ∧ Aside0 (Below w4.heap.size w4 w'))
  case atStart => exact ⟨0, rfl, ⟨rfl, Nat.zero_le _⟩, ⟨Below.refl _ _⟩⟩
  case round =>
    obtain ⟨i, rfl, HK, HB⟩ := hrel
    have HBw := Aside0.mk (HB4.out.trans (HB.out.mono HB4.out.size))
    have HDw := Aside0.mk (HD4.out.below HB.out)
    by_cases hi : i < n
    · have qi : (i < n) = True := eq_true hi
      cases gk with
      | zero => exact absurd HK.out (by omega)
      | succ k1_ =>
      have hi' : i < l.length := by have := HN.out; omega
      obtain ⟨bk, o, hA, hlt, hcell⟩ := DskF.C_cells HR.out (by omega)
      obtain ⟨s, hs⟩ : ∃ s, s = l[i] := ⟨_, rfl⟩
      have HCL := Aside0.mk (show w.cell? ⟨bk, o + i, none⟩ = some (.string s) by rw [hs]; exact hcell i l[i] (List.getElem?_eq_getElem hi'))
      have HLT := Aside0.mk hlt
      have cp := DskK.read_c HDw.out (show (0 : Nat) < 1000000 by decide) (i : Int)
      rw [rd_at l limit i hi', ← hs] at cp
      have CP := Aside0.mk cp
      have HI := Aside0.mk hi
      clear hi hi' hs hcell hlt cp
      subst hA
      go_wp2_with (go_at_call 17; go_must (refine CP.out.mono ?_; rintro e w6 ⟨rfl, hb⟩; have HB6 := Aside0.mk (HB.out.trans (hb.mono HB.out.size)); have d1 := ((HBw.out.trans (hb.mono HBw.out.size)).cell (p := ⟨bk, o + i, none⟩) HLT.out).trans HCL.out; clear hb))
      go_roundg k1_
      case measure => omega
      case rel => exact ⟨i + 1, by first | rfl | (congr 1; have := HI.out; have := HL.out; unfold wrap64; omega), ⟨by have := HK.out; have := HI.out; omega⟩, HB6⟩
    · have qi : (i < n) = False := eq_false hi
      have cp := DskK.read_c HDw.out (show (0 : Nat) < 1000000 by decide) (l.length : Int)
      rw [rd_end l limit, ← HN.out] at cp
      have CP := Aside0.mk cp
      have HPE := Aside0.mk (show DskPg.pg ⟨l, [], limit, -1, false⟩ = l from (DskPg.pg_cur ⟨l, [], limit, -1, false⟩ (fun p (h : p ∈ ([] : List (Int × ByteArray))) => by cases h)).trans rfl)
      clear hi cp
      go_wp2_with (go_at_call 17; go_must (refine CP.out.mono ?_; rintro e w6 ⟨rfl, hb⟩; have HB6 := Aside0.mk (HB.out.trans (hb.mono HB.out.size)); clear hb))
      have HD6 := Aside0.mk (HD4.out.below HB6.out)
      go_wp2_with (go_at_call 24; go_must (have cp_ := DskPg.pages_c HD6.out (Nat.le_trans HZ4.out HB6.out.size) (show l.length < 1000000 by have := HL.out; have := HN.out; omega) (show (0 : Nat) < 1000000 by decide); with_reducible refine cp_.mono ?_; clear cp_; rw [HPE.out]; rintro e w7 ⟨v7, rfl, ho, hb⟩; obtain ⟨A7, c7, hv, h7c, hk7⟩ := DskTx.kd_row ho rfl; subst hv; have HB7 := Aside0.mk (HB6.out.trans (hb.mono HB6.out.size)); have ct := DskTx.texts_c w7 hk7 h7c (Kd.C_below HR.out (HB4.out.trans (HB7.out.mono HB4.out.size))) HC.out (by have := HL.out; have := HN.out; omega); rw [decide_eq_true rfl] at ct; rw [← HN.out] at ct ⊢; have CT := Aside0.mk ct; clear ho hb hk7 h7c ct))
      go_wp2_with (go_at_call 23; go_must (with_reducible refine CT.out.mono ?_; rintro e w8 ⟨rfl, hb⟩; have HB8 := Aside0.mk (HB7.out.trans (hb.mono HB7.out.size)); clear hb))
      have HD8 := Aside0.mk (HD4.out.below HB8.out)
      go_wp2_with (go_at_call 25; go_must (refine (DskM.limit_c HD8.out).mono ?_; rintro e w9 ⟨rfl, hb⟩; have HB9 := Aside0.mk (HB8.out.trans (hb.mono HB8.out.size)); clear hb))
      have HD9 := Aside0.mk (HD4.out.below HB9.out)
      go_wp2_with (go_at_call 19; go_must (refine (DskP.waiting_none HD9.out).mono ?_; rintro e w10 ⟨rfl, hb⟩; have HB10 := Aside0.mk (HB9.out.trans (hb.mono HB9.out.size)); clear hb))
      have HO10 := row_same HO4.out (fun k hk => HB10.out.block k (HO4.out.lt k hk).2)
      obtain ⟨A10, c10, hv, h10c, hk10⟩ := DskTx.kd_row HO10 HN.out.symm
      have ct := DskTx.texts_c w10 hk10 h10c (Kd.C_below HR.out (HB4.out.trans (HB10.out.mono HB4.out.size))) HC.out (by have := HL.out; have := HN.out; omega)
      rw [decide_eq_true rfl, ← hv, ← HN.out] at ct
      have CT2 := Aside0.mk ct
      clear ct hv hk10 h10c HO10
      go_wp2_with (first | (go_at_call 23; go_must (with_reducible refine CT2.out.mono ?_; rintro e w11 ⟨rfl, hb⟩; have HB11 := Aside0.mk (HB10.out.trans (hb.mono HB10.out.size)); clear hb)) | (go_at_call 10; refine (DskY.wakes_c _).mono ?_; rintro e w12 ⟨rfl, hb⟩; have HB12 := Aside0.mk (HB11.out.trans (hb.mono HB11.out.size)); clear hb))
      go_ret
      exact ⟨rfl, HB4.out.trans (HB12.out.mono HB4.out.size)⟩
end Go.Proofs.Ytbmhfmkfkdbmdaa.Dsk6
end

section
/-
  A slice of texts as a row hands it: opened.
-/
namespace Go.Proofs.Ytbmhfmkfkdbmdaa.DskOs
open Go.ChangeShapes Go.WideShapes Go.ChangeAt Go.RowKit Go.Proofs.YtbmhfmkfkdbmdaaW.PrintWords Go.Proofs.YtbmhfmkfkdbmdaaW.PrintMore
set_option linter.unusedVariables false
set_option maxRecDepth 100000 in
theorem open_strings {H : Type} {enc : TypeId × Value → H} {W : World} {base : Nat} {sp : Nat → Bool} {held : Bool} {a : Option Addr} {len cap : Nat} {d : DataW H} {p : List MemPlace} {ts : List TypeId} {ds : List (DataW H)} {j : Nat}
    (hsz : (DataW.weightsEach Try.prog ts ds).all (· ≤ reachBytes) = true) (ht : ts[j]? = some 47) (hd : ds[j]? = some d)
    (h : DataW.Trod enc Try.prog W base sp held 47 (.slice a len cap) d p) :
    ∃ z : List ByteArray, z.length = len ∧ len ≤ cap ∧ Kd.C Kd.string W a z.length z ∧ (a = none → cap = 0) := by
  have c2 : Try.prog.cellsOf 9 = 1 := by kernel_rfl
  obtain ⟨fuel, hf⟩ := h
  rcases Go.Deep.open_slice1 Try.underlying47 c2 hf with ⟨h5, _⟩ | ⟨x, len', cap', m, n', V, D, Pl, h5, hb, hle, hm, hmm, hx, hread⟩
  · simp [Value.cells] at h5
    obtain ⟨rfl, rfl, rfl⟩ := h5
    exact ⟨[], rfl, Nat.le_refl _, ⟨rfl, by decide, fun h => absurd h (by decide)⟩, fun _ => rfl⟩
  · simp [Value.cells] at h5
    obtain ⟨rfl, rfl, rfl⟩ := h5
    have hlm : len ≤ m := by rw [hmm]; split <;> omega
    have each : ∀ i, i < len → ∃ r : ByteArray, W.cell? (x.add i) = some (.string r) := by
      intro i hi
      obtain ⟨h1, h2⟩ := hread i (by omega)
      obtain ⟨s, q, _, _⟩ := DataW.trod_string Try.underlying9 h2
      simp only [List.cons.injEq, and_true] at q
      rw [q] at h1
      exact ⟨s, h1⟩
    have : Inhabited ByteArray := ⟨ByteArray.empty⟩
    obtain ⟨f, hf'⟩ := Go.Deep.choose_lt each
    have hmax : maxLen ≤ 9223372036854775807 := by decide
    refine ⟨(List.range len).map f, by simp, hle, ⟨rfl, by simp; omega, fun _ => ⟨x, rfl, fun i r hr => ?_⟩⟩, fun h => by cases h⟩
    have hi : i < len := by
      rcases Nat.lt_or_ge i len with h | h
      · exact h
      · rw [List.getElem?_eq_none (by simpa using h)] at hr; cases hr
    simp [hi] at hr
    subst hr
    refine ⟨[.string (f i)], rfl, rfl, fun q u hq => ?_⟩
    have hq0 : q = 0 := by
      rcases Nat.lt_or_ge q 1 with h | h
      · omega
      · rw [List.getElem?_eq_none (by simpa using h)] at hq; cases hq
    subst hq0
    simp at hq
    subst hq
    show W.cell? (x.add (i * 1 + 0)) = _
    rw [Nat.mul_one, Nat.add_zero]
    exact hf' i hi
end Go.Proofs.Ytbmhfmkfkdbmdaa.DskOs
end

section
/-
  DiskFrom: for the row.
-/
namespace Go.Proofs.Ytbmhfmkfkdbmdaa.Dsk6
open Go.RowKit Go.Proofs.YtbmhfmkfkdbmdaaW.PrintWords
set_option linter.unusedVariables false
theorem walkF (A : Option Addr) (n c : Nat) (l : List ByteArray) (limit : Int) (w : World) (w0 : l.length = n) (x0 : n ≤ c) (y0 : Kd.C Kd.string w A l.length l) (u0 : A = none → c = 0) (w1 : (Lit.int .i64 limit).wf = true) :
    Calls Try.prog 6 #[.slice A n c, .int .i64 limit] w fun e w' => e = .returned (.bool true) ∧ Below w.heap.size w w' := by
  subst w0
  exact walk A c l limit w y0 x0 u0
end Go.Proofs.Ytbmhfmkfkdbmdaa.Dsk6
end
