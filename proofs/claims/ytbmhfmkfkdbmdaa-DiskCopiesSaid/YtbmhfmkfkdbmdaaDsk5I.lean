import Derived.Test.YtbmhfmkfkdbmdaaDskYF
import Derived.Deep.DeepMust
import Derived.Test.YtbmhfmkfkdbmdaaProg
import Derived.Test.YtbmhfmkfkdbmdaaCalm
import Derived.OpenShut
import Derived.ProofKit
import Derived.Deep.Strs
import Derived.Lib.SmallJoins
import Derived.ChangeOld
import Derived.SizedLaws
import Derived.Test.YtbmhfmkfkdbmdaaDskW
section
/-
  wakes: its value is true.
-/
namespace Go.Proofs.Ytbmhfmkfkdbmdaa.DskY
open Go.RowKit Go.Proofs.YtbmhfmkfkdbmdaaW.PrintWords Go.Proofs.YtbmhfmkfkdbmdaaW.PrintLast Go.Proofs.YtbmhfmkfkdbmdaaW.PrintMore Go.Proofs.Ytbmhfmkfkdbmdaa.DskR Go.Proofs.Ytbmhfmkfkdbmdaa.DskQ Go.Proofs.Ytbmhfmkfkdbmdaa.DskX Go.Proofs.Ytbmhfmkfkdbmdaa.DskYF
set_option linter.unusedVariables false
set_option maxHeartbeats 8000000 in
set_option maxRecDepth 100000 in
theorem wakes_c (w : World) : Calls Try.prog 10 #[] w fun e w' => e = .returned (.bool true) ∧ Below w.heap.size w w' := by
  obtain ⟨F0, h0⟩ : ∃ F, F = DskP.fillB 0 := ⟨_, rfl⟩
  obtain ⟨F1, h1⟩ : ∃ F, F = DskP.fillB 1 := ⟨_, rfl⟩
  obtain ⟨F7, h7⟩ : ∃ F, F = DskP.fillB 7 := ⟨_, rfl⟩
  obtain ⟨Z, hz⟩ : ∃ Z, Z = F7.extract 0 64 ++ F0.extract 64 256 := ⟨_, rfl⟩
  have z0 : F0.size = 256 := by rw [h0]; exact DskP.fill_size 0
  have z1 : F1.size = 256 := by rw [h1]; exact DskP.fill_size 1
  have z7 : F7.size = 256 := by rw [h7]; exact DskP.fill_size 7
  have c0 : ∀ w, Calls Try.prog 14 #[.int .u8 0] w fun e w' => e = .returned (.string F0) ∧ Below w.heap.size w w' := fun w => by rw [h0]; exact DskP.fill_c 0 w
  have c1 : ∀ w, Calls Try.prog 14 #[.int .u8 1] w fun e w' => e = .returned (.string F1) ∧ Below w.heap.size w w' := fun w => by rw [h1]; exact DskP.fill_c 1 w
  have c7 : ∀ w, Calls Try.prog 14 #[.int .u8 7] w fun e w' => e = .returned (.string F7) ∧ Below w.heap.size w w' := fun w => by rw [h7]; exact DskP.fill_c 7 w
  have p0 : DskG.pg0 = F0 := by rw [h0]; exact pg0_fill
  have pz : DskU.tornB F0 F7 1 = Z := by rw [hz, h0, h7]; exact torn_fill
  have zz : Z.size = 256 := by rw [← pz]; exact DskC.torn_size F0 F7 z0 z7 1
  have ZZ := Aside0.mk zz
  have C0 := Aside0.mk c0
  have C1 := Aside0.mk c1
  have C7 := Aside0.mk c7
  have P0 := Aside0.mk p0
  have PZ := Aside0.mk pz
  have Z0 := Aside0.mk z0
  have Z1 := Aside0.mk z1
  have Z7 := Aside0.mk z7
  have HZ := Aside0.mk hz
  clear zz c0 c1 c7 p0 pz h0 h1 h7 z0 z1 z7 hz
  go_enter Try.func10, Try.ntmps10
  go_wp2_with (go_at_call 11; refine (new3 _).mono ?_; rintro e w1 ⟨D, rfl, hJ⟩; have HJ := Aside0.mk hJ; clear hJ)
  go_wp2_with (go_at_call 12; refine (j_grow HJ.out (by simp) (by simp) (by simp) 2 (s1 P0.out)).mono ?_; rintro e w2 ⟨rfl, hj⟩; have HJ2 := Aside0.mk hj; clear hj HJ)
  go_wp2_with (go_at_call 12; refine (j_grow HJ2.out (by simp) (by simp) (by simp) 4 s2).mono ?_; rintro e w3 ⟨rfl, hj⟩; have HJ3 := Aside0.mk hj; clear hj HJ2)
  go_wp2_with (go_at_call 14; refine (C7.out _).mono ?_; rintro e w4 ⟨rfl, hb⟩; have HJ4 := Aside0.mk (HJ3.out.below hb); clear hb HJ3)
  go_wp2_with (go_at_call 13; refine (j_write HJ4.out (by simp) (by simp) 1 F7 (s3 Z7.out)).mono ?_; rintro e w5 ⟨rfl, hj⟩; have HJ5 := Aside0.mk hj; clear hj HJ4)
  go_wp2_with (go_at_call 17; refine (j_read HJ5.out (by simp) 1 s4).mono ?_; rintro e w6 ⟨rfl, hj⟩; have HJ6 := Aside0.mk hj; clear hj HJ5)
  go_wp2_with (go_at_call 16; refine (j_crash (HJ6.out.below (below_alloc (Below.refl _ _) _)) (by simp) (by simp) (by simpa using Z0.out) (by simpa using Z7.out) (some ⟨_, 0, none⟩) 1 [1] (by simp) (one_u8 _ 1) (fun ad ha => .inr ⟨_, _, by obtain rfl := Option.some.inj ha; exact blk_new _ _⟩) (s5 PZ.out)).mono ?_; rintro e w7 ⟨rfl, hj⟩; have HJ7 := Aside0.mk hj; clear hj HJ6)
  go_wp2_with (go_at_call 17; refine (jn_read HJ7.out (by simp) 1 s6).mono ?_; rintro e w8 ⟨rfl, hj⟩; have HJ8 := Aside0.mk hj; clear hj HJ7)
  go_wp2_with (go_at_call 18; refine (j_fuse HJ8.out.toJ 1 s7).mono ?_; rintro e w9 ⟨rfl, hj⟩; have HJ9 := Aside0.mk hj; clear hj HJ8)
  go_wp2_with (go_at_call 14; refine (C1.out _).mono ?_; rintro e w10 ⟨rfl, hb⟩; have HJ10 := Aside0.mk (HJ9.out.below hb); clear hb HJ9)
  go_wp2_with (go_at_call 13; refine (j_write HJ10.out (by simp) (by simp) 0 F1 (s8 Z1.out)).mono ?_; rintro e w11 ⟨rfl, hj⟩; have HJ11 := Aside0.mk hj; clear hj HJ10)
  go_wp2_with (go_at_call 15; refine (j_sync HJ11.out (by simp) (by simp) (by simp) s9).mono ?_; rintro e w12 ⟨rfl, hj⟩; have HJ12 := Aside0.mk hj; clear hj HJ11)
  go_wp2_with (go_at_call 17; refine (j_read HJ12.out (by simp) 0 s10).mono ?_; rintro e w13 ⟨rfl, hj⟩; have HJ13 := Aside0.mk hj; clear hj HJ12)
  go_wp2_with (go_at_call 16; refine (j_crash HJ13.out (by simp) (by simp) (by simpa using ⟨Z0.out, ZZ.out⟩) (by simpa using Z1.out) none 0 [] (by simp) (Kd.C_nil _ _) (fun ad ha => nomatch ha) s11).mono ?_; rintro e w14 ⟨rfl, hj⟩; have HJ14 := Aside0.mk hj; clear hj HJ13)
  go_wp2_with (go_at_call 17; refine (jn_read HJ14.out (by simp) 0 s12).mono ?_; rintro e w15 ⟨rfl, hj⟩; have HJ15 := Aside0.mk hj; clear hj HJ14)
  have HC := Aside0.mk (show ∀ w', Cm.Calm w15 w' → JN w D ⟨[F0, Z], [], 3, -1, false⟩ w' from fun w' hc => HJ15.out.below hc.below)
  have HB := Aside0.mk HJ15.out.2
  have CL := Aside0.mk (show ∀ w', Cm.Calm w15 w' → Calls Try.prog 26 #[.pointer (some ⟨D, 0, none⟩)] w' fun e w2 => e = .returned (.int .i64 2) ∧ Below w'.heap.size w' w2 from fun w' hc => p_length (HC.out w' hc))
  have CM := Aside0.mk (show ∀ w', Cm.Calm w15 w' → Calls Try.prog 25 #[.pointer (some ⟨D, 0, none⟩)] w' fun e w2 => e = .returned (.int .i64 3) ∧ Below w'.heap.size w' w2 from fun w' hc => p_limit (HC.out w' hc))
  have CW := Aside0.mk (show ∀ w', Cm.Calm w15 w' → Calls Try.prog 19 #[.pointer (some ⟨D, 0, none⟩)] w' fun e w2 => e = .returned (.slice none 0 0) ∧ Below w'.heap.size w' w2 from fun w' hc => p_waiting (HC.out w' hc))
  have z7 := Z7.out
  have z0 := Z0.out
  have hz := HZ.out
  refine Cm.wp_region_calm_lit w15 (by kernel_rfl) (by kernel_rfl) (Cm.Calm.refl _) ?_
  simp only [List.append_eq, List.cons_append, List.nil_append]
  repeat (first | go_big_quiet_step (fail) | (refine wpQuiet_step (fun K hK => ?_); go_simp; first | (refine hK _ ?_; clear hK K) | (refine ⟨_, fun _ _ => rfl, hK _ ?_⟩; clear hK K) | (apply Exists.intro; refine ⟨fun _ hc_ => ?_, hK _ ?_⟩; (first | with_reducible exact Cm.Calm.call hc_ (C7.out _) | with_reducible exact Cm.Calm.call hc_ (C0.out _) | with_reducible exact Cm.Calm.call hc_ (CL.out _ hc_) | with_reducible exact Cm.Calm.call hc_ (CM.out _ hc_) | with_reducible exact Cm.Calm.call hc_ (CW.out _ hc_)); clear hK K)))
  refine wpQuiet_nil ?_
  intro w' hC
  go_wp2_with fail
  go_ret
  exact ⟨rfl, HB.out.trans (hC.below.mono HB.out.size)⟩
end Go.Proofs.Ytbmhfmkfkdbmdaa.DskY
end

section
/-
  DiskCopies: a disk made from what another one shows shows the same.
-/
namespace Go.Proofs.Ytbmhfmkfkdbmdaa.Dsk5
open Go.RowKit Go.Proofs.YtbmhfmkfkdbmdaaW.PrintWords Go.Proofs.YtbmhfmkfkdbmdaaW.PrintLast Go.Proofs.YtbmhfmkfkdbmdaaW.PrintMore Go.Proofs.Ytbmhfmkfkdbmdaa.DskR Go.Proofs.Ytbmhfmkfkdbmdaa.DskQ Go.Proofs.Ytbmhfmkfkdbmdaa.DskX Go.Proofs.Ytbmhfmkfkdbmdaa.DskE Go.Proofs.Ytbmhfmkfkdbmdaa.Dsk4P
set_option linter.unusedVariables false
theorem wr_next (old : Nat → Int) (y : List (Int × Int)) (c : Int) (i : Nat) (a1 a2 : Int) (hy : y[i]? = some (a1, a2)) (m : Nat) (hm : (m : Int) = a1 % 4) (hm4 : m < 4) :
    DskV.wr ⟨S4 old, (qs y).take i, c, -1, false⟩ (m : Int) (DskP.fillB a2) = (0, ⟨S4 old, (qs y).take (i + 1), c, -1, false⟩) := by
  unfold DskV.wr
  rw [if_neg (fun h => by cases h), if_neg (by rw [DskP.fill_size]; omega), if_neg (by show ¬ ¬ ((0 : Int) ≤ m ∧ (m : Int) < ((S4 old).length : Int)); simp [S4]; omega), if_neg (show ¬ ((-1 : Int) = 0) by decide), if_neg (show ¬ ((-1 : Int) > 0) by decide)]
  have hi := (List.getElem?_eq_some_iff.1 hy).1
  rw [take_snoc (qs y) i ((m : Int), DskP.fillB a2) (by unfold qs; rw [List.length_map]; exact hi)]
  have e : (qs y).getD i ((m : Int), DskP.fillB a2) = ((m : Int), DskP.fillB a2) := by
    unfold qs
    rw [List.getD_eq_getElem?_getD, List.getElem?_map, hy, hm]; rfl
  rw [e]
theorem rem4 (a : Int) (h : 0 ≤ a ∧ a < 256) : ∃ m : Nat, (wrap64 a).tmod 4 = (m : Int) ∧ (IntKind.i64.wrap a).tmod 4 = (m : Int) ∧ m < 4 ∧ (m : Int) = a % 4 := by
  have e : wrap64 a = a := by unfold wrap64; omega
  have e' : IntKind.i64.wrap a = a := by simp [IntKind.wrap, IntKind.signed, IntKind.bits]; omega
  rw [e, e', Int.tmod_eq_emod_of_nonneg h.1]
  exact ⟨(a % 4).toNat, by omega, by omega, by omega, by omega⟩
theorem put_size {q : List (Int × ByteArray)} : ∀ {s : List ByteArray}, (∀ p ∈ s, p.size = 256) → (∀ p ∈ q, p.2.size = 256) → ∀ p ∈ DskQ.putAll s q, p.size = 256 := by
  induction q with
  | nil => intro s h _; exact h
  | cons r q ih =>
    intro s h h'
    rw [DskQ.putAll]
    exact ih (fun p hp => (List.mem_or_eq_of_mem_set hp).elim (h p) (fun e => by rw [e]; exact h' r (by simp))) (fun p hp => h' p (List.mem_cons_of_mem _ hp))
theorem J.drew {W w : World} {D : Nat} {x : Dk} (h : J W D x w) : J W D x w.drew := ⟨let ⟨vs, vq, hd⟩ := h.1; ⟨vs, vq, hd.drew⟩, h.2.drew⟩
theorem ok_of (C : List ByteArray) (h : C.length = 4) (h6 : ∀ p ∈ C, p.size = 256) : DskF.okD C 9 = true := by
  have e : (C.any fun x => (x.size : Int) != 256) = false := by
    rw [List.any_eq_false]
    intro p hp
    simp [h6 p hp]
  unfold DskF.okD
  rw [e, h]; rfl
theorem tear_none (s : List ByteArray) (l : List Int) : DskC.tear s [] l = s := by cases l <;> rfl
/-- A slice of pairs of bytes. -/
def Prs (w : World) (A : Option Addr) (n : Nat) (z : List (Int × Int)) : Prop := 0 < n → ∃ b o, A = some ⟨b, o, none⟩ ∧ b < w.heap.size ∧ ∀ j p, z[j]? = some p → w.cell? ⟨b, o + j * 2, none⟩ = some (.int .u8 p.1) ∧ w.cell? ⟨b, o + j * 2 + 1, none⟩ = some (.int .u8 p.2)
def Rng (z : List (Int × Int)) : Prop := ∀ p ∈ z, 0 ≤ p.1 ∧ p.1 < 256 ∧ 0 ≤ p.2 ∧ p.2 < 256
set_option maxHeartbeats 16000000 in
set_option maxRecDepth 100000 in
theorem walk (A1 : Option Addr) (n1 c1 : Nat) (z : List (Int × Int)) (A3 : Option Addr) (c3 : Nat) (ch : List Int) (w : World) (hz : z.length = n1) (hc1 : Prs w A1 n1 z) (hr1 : Rng z)
    (hk3 : Kd.C (Kd.int .u8) w A3 ch.length ch) (hr3 : ∀ c ∈ ch, 0 ≤ c ∧ c < 256) (hs3 : 0 < ch.length → ∀ ad, A3 = some ad → ad.block < w.heap.size) :
    Calls Try.prog 7 #[.slice A1 n1 c1, .slice A3 ch.length c3] w fun e w' => e = .returned (.bool true) ∧ Below w.heap.size w w' := by
  obtain ⟨n3, hn3⟩ : ∃ n3, n3 = ch.length := ⟨_, rfl⟩
  have HN3 := Aside0.mk hn3
  have HZ := Aside0.mk hz
  have HC1 := Aside0.mk hc1
  have HR1 := Aside0.mk hr1
  have HK3 := Aside0.mk hk3
  have HR3 := Aside0.mk hr3
  have HS3 := Aside0.mk hs3
  rw [← hn3]
  clear hz hc1 hr1 hk3 hr3 hs3 hn3
  go_enter Try.func7, Try.ntmps7
  by_cases h1 : n1 > 30
  · have q1 : decide ((n1 : Int) > 30) = true := decide_eq_true (by omega)
    clear h1
    go_wp2_with (go_at_call 10; refine (DskY.wakes_c _).mono ?_; rintro e w1 ⟨rfl, hb⟩; have HB := Aside0.mk hb; clear hb)
    go_ret
    exact ⟨rfl, HB.out⟩
  have q1 : decide ((n1 : Int) > 30) = false := decide_eq_false (by omega)
  by_cases h3 : n3 > 60
  · have q3 : decide ((n3 : Int) > 60) = true := decide_eq_true (by omega)
    clear h1 h3
    go_wp2_with (go_at_call 10; refine (DskY.wakes_c _).mono ?_; rintro e w1 ⟨rfl, hb⟩; have HB := Aside0.mk hb; clear hb)
    go_ret
    exact ⟨rfl, HB.out⟩
  have q3 : decide ((n3 : Int) > 60) = false := decide_eq_false (by omega)
  have HN := Aside0.mk (show n1 ≤ 30 ∧ n3 ≤ 60 by omega)
  clear h1 h3
  go_wp2_with (go_at_call 11; refine (new_c 5 (by decide) (by decide) _).mono ?_; rintro e w1 ⟨D, rfl, hJ⟩; have HJ := Aside0.mk hJ; clear hJ)
  go_wp2_with (go_at_call 12; refine (j_grow HJ.out (by simp) (by simp) (by simp) 4 (show _ = ((0 : Int), (⟨S4 (fun _ => 0), [], 5, -1, false⟩ : Dk)) by unfold S4; rw [← DskYF.pg0_fill]; rfl)).mono ?_; rintro e w2 ⟨rfl, hj⟩; have HJ2 := Aside0.mk hj; clear hj HJ)
  go_loopg [7] (n1 + 1) (fun gk v7 w' => ∃ (i : Nat), v7 = .int .i64 (i : Int) ∧ Aside0 (gk + i = n1 + 1 ∧ i ≤ n1) ∧ Aside0 (J w D ⟨S4 (fun _ => 0), (qs z).take i, 5, -1, false⟩ w'))
  case atStart => exact ⟨0, rfl, ⟨rfl, Nat.zero_le _⟩, by rw [List.take_zero]; exact HJ2⟩
  case round =>
    clear HJ2
    obtain ⟨i, rfl, HK, HJ⟩ := hrel
    by_cases hi : i < n1
    · have qi : (i < n1) = True := eq_true hi
      cases gk with
      | zero => exact absurd HK.out (by omega)
      | succ k1_ =>
      obtain ⟨b, o, rfl, hb, hcc⟩ := HC1.out (by omega)
      obtain ⟨⟨a1, a2⟩, hp⟩ : ∃ p, z[i]? = some p := ⟨_, List.getElem?_eq_getElem (by rw [HZ.out]; exact hi)⟩
      have r := HR1.out _ (List.mem_of_getElem? hp)
      obtain ⟨e1, e2⟩ := hcc i _ hp
      have E1 := Aside0.mk e1
      have E2 := Aside0.mk e2
      have HBB := Aside0.mk hb
      obtain ⟨m, hm, hmw, hm4, hme⟩ := rem4 a1 ⟨r.1, r.2.1⟩
      have HI1 := Aside0.mk hi
      have d1 := (HJ.out.2.cell (p := ⟨b, o + i * 2, none⟩) hb).trans e1
      have d2 := (HJ.out.2.cell (p := ⟨b, o + i * 2 + 1, none⟩) hb).trans e2
      simp only at d1 d2
      have HW := Aside0.mk (wr_next (fun _ => 0) z 5 i a1 a2 hp m hme hm4)
      have HX := Aside0.mk (show ((qs z).take i).length < 1000000 from by have := HN.out; rw [List.length_take]; omega)
      clear hi e1 e2 hcc hb hp r hm4 hme
      go_wp2_with fail
      refine start_ (n := 16) (S := (fun w' => w'.cell? ⟨b, o + i * 2, none⟩ = some (.int .u8 a1) ∧ w'.cell? ⟨b, o + i * 2 + 1, none⟩ = some (.int .u8 a2))) (ds := []) #[false, false, false, false, false, false, false, false, false, false, false, false, false, false, false, false] (by kernel_rfl) rfl rfl ⟨d1, d2⟩ (fun hHeld => ?_)
      have HJd := Aside0.mk (J.drew HJ.out)
      refine pure_ (i := 0) (N := (some 41)) (v := ?_) (a' := ?_) #[true, false, false, false, false, false, false, false, false, false, false, false, false, false, false, false] rfl rfl (by kernel_rfl) (fun _ _ _ h => h) (Or.inl ⟨by rfl, ?_⟩) ?_ ?_
      rotate_left
      · intro w'
        go_simp
        with_reducible rfl
      rotate_left
      · simp only [Act.put, List.setIfInBounds_toArray, List.set_cons_zero, List.set_cons_succ]
        rfl
      refine pure_ (i := 1) (N := (some 42)) (v := ?_) (a' := ?_) #[true, true, false, false, false, false, false, false, false, false, false, false, false, false, false, false] rfl rfl (by kernel_rfl) (fun _ _ _ h => h) (Or.inl ⟨by rfl, ?_⟩) ?_ ?_
      rotate_left
      · intro w'
        go_simp
        with_reducible rfl
      rotate_left
      · simp only [Act.put, List.setIfInBounds_toArray, List.set_cons_zero, List.set_cons_succ]
        rfl
      refine pure_ (i := 2) (N := (some 43)) (v := ?_) (a' := ?_) #[true, true, true, false, false, false, false, false, false, false, false, false, false, false, false, false] rfl rfl (by kernel_rfl) (fun _ _ _ h => h) (Or.inl ⟨by rfl, ?_⟩) ?_ ?_
      rotate_left
      · intro w'
        go_simp
        with_reducible rfl
      rotate_left
      · simp only [Act.put, List.setIfInBounds_toArray, List.set_cons_zero, List.set_cons_succ]
        rfl
      refine pure_ (i := 3) (N := (some 44)) (v := ?_) (a' := ?_) #[true, true, true, true, false, false, false, false, false, false, false, false, false, false, false, false] rfl rfl (by kernel_rfl) (fun _ _ _ h => h) (Or.inl ⟨by rfl, ?_⟩) ?_ ?_
      rotate_left
      · intro w'
        go_simp
        with_reducible rfl
      rotate_left
      · simp only [Act.put, List.setIfInBounds_toArray, List.set_cons_zero, List.set_cons_succ]
        rfl
      refine pure_ (i := 4) (N := (some 45)) (v := ?_) (a' := ?_) #[true, true, true, true, true, false, false, false, false, false, false, false, false, false, false, false] rfl rfl (by kernel_rfl) (fun _ _ _ h => h) (Or.inl ⟨by rfl, ?_⟩) ?_ ?_
      rotate_left
      · intro w'
        go_simp
        with_reducible rfl
      rotate_left
      · simp only [Act.put, List.setIfInBounds_toArray, List.set_cons_zero, List.set_cons_succ]
        rfl
      refine take_ (i := 5) (N := some 46) (v := ?_) (a' := ?_) #[true, true, true, true, true, true, false, false, false, false, false, false, false, false, false, false] rfl rfl (by kernel_rfl) (fun _ _ _ h => h) (Or.inl ⟨by rfl, ?_⟩) hHeld ?_ ?_
      rotate_left
      · rintro w' ⟨s0, s1⟩
        go_simp
        with_reducible rfl
      rotate_left
      · simp only [Act.put, List.setIfInBounds_toArray, List.set_cons_zero, List.set_cons_succ]
        rfl
      refine pure_ (i := 6) (N := (some 47)) (v := ?_) (a' := ?_) #[true, true, true, true, true, true, true, false, false, false, false, false, false, false, false, false] rfl rfl (by kernel_rfl) (fun _ _ _ h => h) (Or.inl ⟨by rfl, ?_⟩) ?_ ?_
      rotate_left
      · intro w'
        go_simp
        with_reducible rfl
      rotate_left
      · simp only [Act.put, List.setIfInBounds_toArray, List.set_cons_zero, List.set_cons_succ]
        rfl
      refine pure_ (i := 7) (N := (some 48)) (v := ?_) (a' := ?_) #[true, true, true, true, true, true, true, true, false, false, false, false, false, false, false, false] rfl rfl (by kernel_rfl) (fun _ _ _ h => h) (Or.inl ⟨by rfl, ?_⟩) ?_ ?_
      rotate_left
      · intro w'
        go_simp
        with_reducible rfl
      rotate_left
      · simp only [Act.put, List.setIfInBounds_toArray, List.set_cons_zero, List.set_cons_succ]
        rfl
      refine pure_ (i := 8) (N := (some 49)) (v := ?_) (a' := ?_) #[true, true, true, true, true, true, true, true, true, false, false, false, false, false, false, false] rfl rfl (by kernel_rfl) (fun _ _ _ h => h) (Or.inl ⟨by rfl, ?_⟩) ?_ ?_
      rotate_left
      · intro w'
        go_simp
        with_reducible rfl
      rotate_left
      · simp only [Act.put, List.setIfInBounds_toArray, List.set_cons_zero, List.set_cons_succ]
        rfl
      refine pure_ (i := 9) (N := (some 50)) (v := ?_) (a' := ?_) #[true, true, true, true, true, true, true, true, true, true, false, false, false, false, false, false] rfl rfl (by kernel_rfl) (fun _ _ _ h => h) (Or.inl ⟨by rfl, ?_⟩) ?_ ?_
      rotate_left
      · intro w'
        go_simp
        with_reducible rfl
      rotate_left
      · simp only [Act.put, List.setIfInBounds_toArray, List.set_cons_zero, List.set_cons_succ]
        rfl
      refine pure_ (i := 10) (N := (some 51)) (v := ?_) (a' := ?_) #[true, true, true, true, true, true, true, true, true, true, true, false, false, false, false, false] rfl rfl (by kernel_rfl) (fun _ _ _ h => h) (Or.inl ⟨by rfl, ?_⟩) ?_ ?_
      rotate_left
      · intro w'
        go_simp
        with_reducible rfl
      rotate_left
      · simp only [Act.put, List.setIfInBounds_toArray, List.set_cons_zero, List.set_cons_succ]
        rfl
      refine pure_ (i := 11) (N := (some 52)) (v := ?_) (a' := ?_) #[true, true, true, true, true, true, true, true, true, true, true, true, false, false, false, false] rfl rfl (by kernel_rfl) (fun _ _ _ h => h) (Or.inl ⟨by rfl, ?_⟩) ?_ ?_
      rotate_left
      · intro w'
        go_simp
        with_reducible rfl
      rotate_left
      · simp only [Act.put, List.setIfInBounds_toArray, List.set_cons_zero, List.set_cons_succ]
        rfl
      refine take_ (i := 12) (N := some 53) (v := ?_) (a' := ?_) #[true, true, true, true, true, true, true, true, true, true, true, true, true, false, false, false] rfl rfl (by kernel_rfl) (fun _ _ _ h => h) (Or.inl ⟨by rfl, ?_⟩) hHeld ?_ ?_
      rotate_left
      · rintro w' ⟨s0, s1⟩
        go_simp
        with_reducible rfl
      rotate_left
      · simp only [Act.put, List.setIfInBounds_toArray, List.set_cons_zero, List.set_cons_succ]
        rfl
      refine one_ (i := 13) (N := some 54) #[true, true, true, true, true, true, true, true, true, true, true, true, true, true, false, false] rfl rfl (by kernel_rfl) (by decide) (fun K hK => ?_)
      refine goes_ Try.func14 (by kernel_rfl) rfl #[.int .u8 a2] (by rfl) rfl rfl (by (try simp only [List.map_toArray, List.map_cons, List.map_nil]); first | done | rfl) ?_
      refine (DskP.fill_c a2 _).mono ?_
      rintro e w5 ⟨rfl, hb⟩
      refine ⟨_, rfl, ?_⟩
      have HJ5 := Aside0.mk (HJd.out.below hb)
      clear hb
      have d1 := (HJ5.out.2.cell (p := ⟨b, o + i * 2, none⟩) HBB.out).trans E1.out
      have d2 := (HJ5.out.2.cell (p := ⟨b, o + i * 2 + 1, none⟩) HBB.out).trans E2.out
      refine hK.out _ _ ⟨d1, d2⟩ (fun hHeld => ?_)
      clear hK K
      refine norm_ (a' := ?_) ?_ ?_
      rotate_left
      · show Act.put _ (some 54) _ = _
        simp only [Act.put, List.setIfInBounds_toArray, List.set_cons_zero, List.set_cons_succ]
        rfl
      refine one_ (i := 14) (N := some 55) #[true, true, true, true, true, true, true, true, true, true, true, true, true, true, true, false] rfl rfl (by kernel_rfl) (by decide) (fun K hK => ?_)
      refine goes_ Try.func13 (by kernel_rfl) rfl #[.pointer (some ⟨D, 0, none⟩), .int .i64 (m : Int), .string (DskP.fillB a2)] (by rfl) rfl rfl (by (try simp only [List.map_toArray, List.map_cons, List.map_nil]); first | done | rfl) ?_
      refine (j_write HJ5.out HX.out (by show (-1 : Int) < _; decide) _ _ HW.out).mono ?_
      rintro e w6 ⟨rfl, hj⟩
      refine ⟨_, rfl, ?_⟩
      have HJ6 := Aside0.mk hj
      clear hj d1 d2 HJd
      have d1 := (HJ6.out.2.cell (p := ⟨b, o + i * 2, none⟩) HBB.out).trans E1.out
      have d2 := (HJ6.out.2.cell (p := ⟨b, o + i * 2 + 1, none⟩) HBB.out).trans E2.out
      refine hK.out _ _ ⟨d1, d2⟩ (fun hHeld => ?_)
      clear hK K
      refine norm_ (a' := ?_) ?_ ?_
      rotate_left
      · show Act.put _ (some 55) _ = _
        simp only [Act.put, List.setIfInBounds_toArray, List.set_cons_zero, List.set_cons_succ]
        rfl
      refine pure_ (i := 15) (N := (some 56)) (v := ?_) (a' := ?_) #[true, true, true, true, true, true, true, true, true, true, true, true, true, true, true, true] rfl rfl (by kernel_rfl) (fun _ _ _ h => h) (Or.inl ⟨by rfl, ?_⟩) ?_ ?_
      rotate_left
      · intro w'
        go_simp
        with_reducible rfl
      rotate_left
      · simp only [Act.put, List.setIfInBounds_toArray, List.set_cons_zero, List.set_cons_succ]
        rfl
      refine done_ (by kernel_rfl) ?_
      go_wp2_with fail
      go_roundg k1_
      case measure => omega
      case rel => exact ⟨i + 1, by first | rfl | (congr 1; have := HK.out; have := HN.out; unfold wrap64; omega), ⟨by have := HK.out; have := HI1.out; omega⟩, HJ6⟩
    · have qi : (i < n1) = False := eq_false hi
      have hqa : (qs z).take i = qs z := List.take_of_length_le (by unfold qs; rw [List.length_map, HZ.out]; omega)
      rw [hqa] at HJ
      have HQL := Aside0.mk (show (qs z).length < 1000000 from by have := HN.out; unfold qs; rw [List.length_map, HZ.out]; omega)
      have HQM := fun r (hr : r ∈ qs z) => qs_mem (fun p hp => (HR1.out p hp).1) hr
      obtain ⟨C, hC⟩ : ∃ C, C = cur ⟨S4 (fun _ => 0), qs z, 5, -1, false⟩ := ⟨_, rfl⟩
      have HP := Aside0.mk (show DskPg.pg ⟨S4 (fun _ => 0), qs z, 5, -1, false⟩ = C by rw [hC]; exact DskPg.pg_cur _ (fun r hr => (HQM r hr).2.1))
      have HCL := Aside0.mk (show C.length = 4 by rw [hC]; exact (put_length _ _).trans rfl)
      have HC6 := Aside0.mk (show ∀ p ∈ C, p.size = 256 by rw [hC]; exact put_size (s := S4 (fun _ => 0)) (S4_size _) (fun r hr => (HQM r hr).1))
      have HPE := Aside0.mk (show ∀ f : Int, DskPg.pg ⟨C, [], 9, f, false⟩ = C from fun f => (DskPg.pg_cur ⟨C, [], 9, f, false⟩ (fun p (h : p ∈ ([] : List (Int × ByteArray))) => by cases h)).trans rfl)
      have HBW := Aside0.mk HJ.out.2
      obtain ⟨⟨vs, vq, hd⟩, hbw⟩ := HJ.out
      have HD := Aside0.mk hd
      clear HJ hi hqa HQM hC hd hbw HK
      go_wp2_with (go_at_call 24; go_must (have cp_ := (DskPg.pages_c HD.out HBW.out.size (show (S4 (fun _ => 0)).length < 1000000 by simp [S4]) HQL.out); with_reducible refine cp_.mono ?_; clear cp_; rw [HP.out]; rintro e w1 ⟨v1, rfl, ho, hb⟩; obtain ⟨A4, c4, hv, _, hk4⟩ := DskTx.kd_row ho (show C.length = (S4 (fun _ => 0)).length by rw [HCL.out]; simp [S4]); subst hv; have HK4 := Aside0.mk hk4; have HB1 := Aside0.mk hb; clear hk4 ho hb))
      go_wp2_with (go_at_call 21; go_must (refine (DskF.from_c A4 c4 C 9 _ HK4.out).mono ?_; rintro e w2 ⟨hb, hm⟩; rw [if_pos (ok_of C HCL.out HC6.out)] at hm; obtain ⟨E, vE, rfl, hE⟩ := hm; have HE2 := Aside0.mk hE; have HB2 := Aside0.mk hb; clear hE hb))
      have HD2 := Aside0.mk ((HD.out.below HB1.out).below HB2.out)
      have HW2 := Aside0.mk ((HBW.out.trans (HB1.out.mono HBW.out.size)).trans (HB2.out.mono (Nat.le_trans HBW.out.size HB1.out.size)))
      have HS2 := Aside0.mk (show w.heap.size ≤ w1.heap.size from Nat.le_trans HBW.out.size HB1.out.size)
      go_wp2_with (go_at_call 24; (have cp_ := (DskPg.pages_c HE2.out HB2.out.size (show C.length < 1000000 by rw [HCL.out]; decide) (show (0 : Nat) < 1000000 by decide)); with_reducible refine cp_.mono ?_; clear cp_; rw [HPE.out]; rintro e w3 ⟨v3, rfl, ho, hb⟩; have HO3 := Aside0.mk ho; have HB3 := Aside0.mk hb; clear ho hb))
      go_wp2_with (go_at_call 24; (have cp_ := (DskPg.pages_c (HD2.out.below HB3.out) (Nat.le_trans HW2.out.size HB3.out.size) (show (S4 (fun _ => 0)).length < 1000000 by simp [S4]) HQL.out); with_reducible refine cp_.mono ?_; clear cp_; rw [HP.out]; rintro e w4 ⟨v4, rfl, ho, hb⟩; obtain ⟨A6, c6, hv, h6c, hk6⟩ := DskTx.kd_row (row_same HO3.out (fun k hk => hb.block k (HO3.out.lt k hk).2)) rfl; subst hv; obtain ⟨A7, c7, hv, h7c, hk7⟩ := DskTx.kd_row ho (show C.length = (S4 (fun _ => 0)).length by rw [HCL.out]; simp [S4]); subst hv; have HK6 := Aside0.mk hk6; have HK7 := Aside0.mk hk7; have HC67 := Aside0.mk (And.intro h6c h7c); have HB4 := Aside0.mk hb; clear ho hb hk6 hk7 h6c h7c))
      go_wp2_with (go_at_call 23; go_must (have cp_ := (DskTx.texts_c _ HK6.out HC67.out.1 HK7.out HC67.out.2 (by rw [HCL.out]; decide)); with_reducible refine cp_.mono ?_; clear cp_; rw [decide_eq_true rfl]; rintro e w5 ⟨rfl, hb⟩; have HB5 := Aside0.mk ((HB3.out.trans (HB4.out.mono HB3.out.size)).trans (hb.mono (Nat.le_trans HB3.out.size HB4.out.size))); clear hb))
      have HE5 := Aside0.mk (HE2.out.below HB5.out)
      obtain ⟨gE, cE, hvE⟩ := DskV.form HE2.out.rs
      have hL4 := HCL.out
      go_wp2_with (go_at_call 19; go_must (refine (DskP.waiting_none HE5.out).mono ?_; rintro e w6 ⟨rfl, hb⟩; have HE6 := Aside0.mk (HE5.out.below hb); have HB6 := Aside0.mk (HB5.out.trans (hb.mono HB5.out.size)); clear hb))
      go_wp2_with (go_at_call 25; go_must (refine (DskM.limit_c HE6.out).mono ?_; rintro e w7 ⟨rfl, hb⟩; have HE7 := Aside0.mk (HE6.out.below hb); have HB7 := Aside0.mk (HB6.out.trans (hb.mono HB6.out.size)); clear hb))
      go_wp2_with (go_at_call 26; go_must (refine (DskM.length_c HE7.out hvE).mono ?_; rintro e w8 ⟨rfl, hb⟩; have HE8 := Aside0.mk (HE7.out.below hb); have HB8 := Aside0.mk (HB7.out.trans (hb.mono HB7.out.size)); clear hb))
      have HZ8 := Aside0.mk (Nat.le_trans HB2.out.size HB8.out.size)
      go_wp2_with (go_at_call 24; (have cp_ := (DskPg.pages_c HE8.out HZ8.out (show C.length < 1000000 by rw [HCL.out]; decide) (show (0 : Nat) < 1000000 by decide)); with_reducible refine cp_.mono ?_; clear cp_; rw [HPE.out]; rintro e w9 ⟨v9, rfl, ho, hb⟩; have HO9 := Aside0.mk ho; have HE9 := Aside0.mk (HE8.out.below hb); have HB9 := Aside0.mk (HB8.out.trans (hb.mono HB8.out.size)); have HZ9 := Aside0.mk hb.size; clear ho hb))
      have HW9 := Aside0.mk (HW2.out.trans (HB9.out.mono HW2.out.size))
      go_wp2_with (go_at_call 16; go_must (rw [HN3.out]; refine (DskC.crash_c HE9.out (show (0 : Nat) < 1000000 by decide) (fun p (h : p ∈ ([] : List (Int × ByteArray))) => by cases h) HC6.out (fun p (h : p ∈ ([] : List (Int × ByteArray))) => by cases h) A3 c3 ch HR3.out (Kd.C_below HK3.out HW9.out) (fun h0 ad ha => ⟨fun hk => by have := HE9.out.own_ge hk; have := HS3.out h0 ad ha; have := HS2.out; omega, Nat.lt_of_lt_of_le (HS3.out h0 ad ha) HW9.out.size⟩)).mono ?_; rintro e w10 ⟨rfl, vs', h1, h2, _⟩; rw [show DskC.crash ⟨C, [], 9, -1, false⟩ ch = ⟨C, [], 9, -1, false⟩ by unfold DskC.crash; rw [tear_none]] at h1; have HE10 := Aside0.mk h1; have HW10 := Aside0.mk (HW9.out.trans (h2.below HW9.out.size (fun k hk => Nat.le_trans HS2.out (HE9.out.own_ge hk)))); have HO10 := Aside0.mk (row_same HO9.out (fun k hk => h2.block k (HO9.out.lt k hk).2 (fun q => by have := (HO9.out.lt k hk).1; have := HE8.out.own_lt q; omega))); have HZ10 := Aside0.mk (Nat.le_trans (Nat.le_trans HZ8.out HZ9.out) h2.size); rw [← HN3.out]; clear h1 h2))
      go_wp2_with (go_at_call 24; (have cp_ := (DskPg.pages_c HE10.out HZ10.out (show C.length < 1000000 by rw [HCL.out]; decide) (show (0 : Nat) < 1000000 by decide)); with_reducible refine cp_.mono ?_; clear cp_; rw [HPE.out]; rintro e w11 ⟨v11, rfl, ho, hb⟩; obtain ⟨A8, c8, hv, h8c, hk8⟩ := DskTx.kd_row ho rfl; subst hv; obtain ⟨A9, c9, hv, h9c, hk9⟩ := DskTx.kd_row (row_same HO10.out (fun k hk => hb.block k (HO10.out.lt k hk).2)) rfl; subst hv; have HK8 := Aside0.mk hk8; have HK9 := Aside0.mk hk9; have HC89 := Aside0.mk (And.intro h8c h9c); have HB11 := Aside0.mk hb; clear ho hb hk8 hk9 h8c h9c))
      go_wp2_with (first | (go_at_call 23; go_must (have cp_ := (DskTx.texts_c _ HK8.out HC89.out.1 HK9.out HC89.out.2 (by rw [HCL.out]; decide)); rw [HCL.out] at cp_; with_reducible refine cp_.mono ?_; clear cp_; rw [decide_eq_true rfl]; rintro e w12 ⟨rfl, hb⟩; have HW12 := Aside0.mk ((HW10.out.trans (HB11.out.mono HW10.out.size)).trans (hb.mono (Nat.le_trans HW10.out.size HB11.out.size))); clear hb)) | (go_at_call 10; go_must (refine (DskY.wakes_c _).mono ?_; rintro e w13 ⟨rfl, hb⟩; have HW13 := Aside0.mk (HW12.out.trans (hb.mono HW12.out.size)); clear hb)))
      go_ret
      exact ⟨rfl, HW13.out⟩
end Go.Proofs.Ytbmhfmkfkdbmdaa.Dsk5
end

section
/-
  A slice of pairs of bytes as a row hands it: opened.
-/
namespace Go.Proofs.Ytbmhfmkfkdbmdaa.DskOq
open Go.ChangeShapes Go.WideShapes Go.ChangeAt Go.RowKit Go.Proofs.YtbmhfmkfkdbmdaaW.PrintWords Go.Proofs.YtbmhfmkfkdbmdaaW.PrintMore
set_option linter.unusedVariables false
theorem u8_range {z : Int} (h : (Lit.int .u8 z).wf = true) : 0 ≤ z ∧ z < 256 := by
  have hm : IntKind.u8.min ≤ z ∧ z ≤ IntKind.u8.max := by simpa [Lit.wf] using h
  have h0 : 0 ≤ z := hm.1
  have h1 : z ≤ 255 := hm.2
  omega
theorem cell_lt {w : World} {b o : Nat} {v : Value} (h : w.cell? ⟨b, o, none⟩ = some v) : b < w.heap.size := by
  rcases Nat.lt_or_ge b w.heap.size with h' | h'
  · exact h'
  · have : w.heap[b]? = none := Array.getElem?_eq_none h'
    simp [World.cell?, this] at h
set_option maxRecDepth 100000 in
theorem open_pairs {H : Type} {enc : TypeId × Value → H} {W : World} {base : Nat} {sp : Nat → Bool} {held : Bool} {a : Option Addr} {len cap : Nat} {d : DataW H} {p : List MemPlace} {ts : List TypeId} {ds : List (DataW H)} {j : Nat}
    (hsz : (DataW.weightsEach Try.prog ts ds).all (· ≤ reachBytes) = true) (ht : ts[j]? = some 22) (hd : ds[j]? = some d)
    (h : DataW.Trod enc Try.prog W base sp held 22 (.slice a len cap) d p) :
    ∃ z : List (Int × Int), z.length = len ∧ len ≤ cap ∧ (0 < len → ∃ b o, a = some ⟨b, o, none⟩ ∧ b < W.heap.size ∧ ∀ j p, z[j]? = some p → W.cell? ⟨b, o + j * 2, none⟩ = some (.int .u8 p.1) ∧ W.cell? ⟨b, o + j * 2 + 1, none⟩ = some (.int .u8 p.2)) ∧ ∀ p ∈ z, 0 ≤ p.1 ∧ p.1 < 256 ∧ 0 ≤ p.2 ∧ p.2 < 256 := by
  have hu : Try.prog.underlying 22 = some (.slice 32) := Try.underlying22
  have ce : Try.prog.cellsOf 32 = 2 := by kernel_rfl
  have c1 : Try.prog.cellsOf 5 = 1 := by kernel_rfl
  obtain ⟨fuel, hf⟩ := h
  rcases Go.Deep.open_slice hu hf with ⟨hcs, _⟩ | ⟨x, l, c, m, n, D, Pl, hcs, hb, hl, hm, hmm, hx, hread⟩
  · simp [Value.cells] at hcs
    obtain ⟨rfl, rfl, rfl⟩ := hcs
    exact ⟨[], rfl, Nat.le_refl _, fun h => absurd h (by decide), fun _ h => nomatch h⟩
  · simp [Value.cells] at hcs
    obtain ⟨rfl, rfl, rfl⟩ := hcs
    have hlm : len ≤ m := by rw [hmm]; split <;> omega
    have each : ∀ i, i < len → ∃ r : Int × Int, (W.cell? (x.add (i * 2)) = some (.int .u8 r.1) ∧ W.cell? (x.add (i * 2 + 1)) = some (.int .u8 r.2)) ∧ 0 ≤ r.1 ∧ r.1 < 256 ∧ 0 ≤ r.2 ∧ r.2 < 256 := by
      intro i hi
      obtain ⟨cs', h1, h2⟩ := hread i (by omega)
      rw [ce] at h1
      obtain ⟨_, hlen, hcell⟩ := World.cells?_some h1
      obtain ⟨xs, m', _, _, _, hxs, hel⟩ := DataW.trod_array Try.underlying32 h2
      match cs', hlen, xs, hxs with
      | [v0, v1], _, [y0, y1], _ =>
        have e0 := hel 0 (by decide)
        have e1 := hel 1 (by decide)
        rw [c1] at e0 e1
        obtain ⟨z0, q0, _, w0⟩ := DataW.trod_int Try.underlying5 e0
        obtain ⟨z1, q1, _, w1⟩ := DataW.trod_int Try.underlying5 e1
        have p0 : [v0] = [Value.int .u8 z0] := q0
        have p1 : [v1] = [Value.int .u8 z1] := q1
        simp only [List.cons.injEq, and_true] at p0 p1
        subst p0 p1
        have k0 := hcell 0 (by decide)
        have k1 := hcell 1 (by decide)
        rw [Go.Deep.add_add] at k0 k1
        have r0 := u8_range w0
        have r1 := u8_range w1
        exact ⟨(z0, z1), ⟨k0, k1⟩, r0.1, r0.2, r1.1, r1.2⟩
    have : Inhabited (Int × Int) := ⟨(0, 0)⟩
    obtain ⟨f, hf'⟩ := Go.Deep.choose_lt each
    refine ⟨(List.range len).map f, by simp, hl, fun h0 => ?_, fun p hp => ?_⟩
    · obtain ⟨b, off, spot⟩ := x
      have hspot : spot = none := by simpa [Addr.add] using World.cell?_spot (hf' 0 h0).1.1
      subst hspot
      refine ⟨b, off, rfl, ?_, fun j p hp => ?_⟩
      · have := (hf' 0 h0).1.1
        rw [Go.WideShapes.add_plain] at this
        exact cell_lt this
      · have hj : j < len := by
          rcases Nat.lt_or_ge j len with h | h
          · exact h
          · rw [List.getElem?_eq_none (by simpa using h)] at hp; cases hp
        simp [hj] at hp
        subst hp
        have := (hf' j hj).1
        rw [Go.WideShapes.add_plain, Go.WideShapes.add_plain] at this
        exact this
    · simp only [List.mem_map, List.mem_range] at hp
      obtain ⟨i, hi, rfl⟩ := hp
      exact (hf' i hi).2
end Go.Proofs.Ytbmhfmkfkdbmdaa.DskOq
end

section
/-
  A slice of bytes as a row hands it.
-/
namespace Go.Proofs.Ytbmhfmkfkdbmdaa.DskOr
open Go.RowKit Go.Proofs.YtbmhfmkfkdbmdaaW.PrintWords Go.Proofs.YtbmhfmkfkdbmdaaW.PrintMore
set_option linter.unusedVariables false
theorem open_bytes {W : World} {a : Option Addr} {len cap : Nat} {zs : List Int}
    (h : (a = none ∧ len = 0 ∧ cap = 0 ∧ zs = []) ∨ ∃ x, a = some x ∧ len ≤ cap ∧ cap ≤ maxLen ∧ zs.length = cap ∧ (∀ i, i < zs.length → W.cell? (x.add i) = some (.int .u8 (zs.getD i 0))) ∧ ∀ n ∈ zs, (Lit.int .u8 n).wf = true) :
    ∃ l : List Int, l.length = len ∧ Kd.C (Kd.int .u8) W a l.length l ∧ (∀ c ∈ l, 0 ≤ c ∧ c < 256) ∧ (0 < l.length → ∃ b o, a = some ⟨b, o, none⟩ ∧ b < W.heap.size ∧ ∀ j c, l[j]? = some c → W.cell? ⟨b, o + j, none⟩ = some (.int .u8 c)) := by
  rcases h with ⟨rfl, rfl, rfl, rfl⟩ | ⟨x, rfl, h1, h2, h3, h4, h5⟩
  · exact ⟨[], rfl, ⟨rfl, by decide, fun h => by simp at h⟩, fun n hn => (nomatch hn), fun h => by cases h⟩
  · have hln : (zs.take len).length = len := by rw [List.length_take]; omega
    have key : ∀ (j : Nat) p, (zs.take len)[j]? = some p → W.cell? (x.add j) = some (.int .u8 p) := by
      intro j p hj
      obtain ⟨hjl, hjv⟩ := List.getElem?_eq_some_iff.1 hj
      rw [hln] at hjl
      rw [h4 j (by omega)]
      rw [List.getElem_take] at hjv
      rw [← hjv]
      simp [List.getD_eq_getElem?_getD, List.getElem?_eq_getElem (show j < zs.length by omega)]
    refine ⟨zs.take len, hln, ⟨rfl, by simp only [maxLen] at h2; omega, fun _ => ⟨x, rfl, fun j p hj => ⟨[.int .u8 p], rfl, rfl, fun i u hi => ?_⟩⟩⟩, fun n hn => DskOq.u8_range (h5 n (List.mem_of_mem_take hn)), fun h0 => ?_⟩
    · obtain ⟨rfl, rfl⟩ : i = 0 ∧ u = .int .u8 p := by
        cases i with
        | zero => exact ⟨rfl, by simpa using hi.symm⟩
        | succ n => simp at hi
      rw [show j * (Kd.int .u8).sz + 0 = j from Nat.mul_one j]
      exact key j p hj
    · obtain ⟨b, off, spot⟩ := x
      obtain ⟨v, hv⟩ : ∃ v, (zs.take len)[0]? = some v := ⟨_, List.getElem?_eq_getElem h0⟩
      have hspot : spot = none := by simpa [Addr.add] using World.cell?_spot (key 0 v hv)
      subst hspot
      refine ⟨b, off, rfl, ?_, fun j c hc => ?_⟩
      · have := key 0 v hv
        rw [Go.WideShapes.add_plain] at this
        exact DskOq.cell_lt this
      · have := key j c hc
        rw [Go.WideShapes.add_plain] at this
        exact this
end Go.Proofs.Ytbmhfmkfkdbmdaa.DskOr
end

section
/-
  DiskCopies: for the row.
-/
namespace Go.Proofs.Ytbmhfmkfkdbmdaa.Dsk5
open Go.RowKit
set_option linter.unusedVariables false
theorem walkF (A1 : Option Addr) (n1 c1 : Nat) (z : List (Int × Int)) (A3 : Option Addr) (n3 c3 : Nat) (zs : List Int) (w : World)
    (w0 : z.length = n1) (x0 : n1 ≤ c1) (y0 : 0 < n1 → ∃ b o, A1 = some ⟨b, o, none⟩ ∧ b < w.heap.size ∧ ∀ j p, z[j]? = some p → w.cell? ⟨b, o + j * 2, none⟩ = some (.int .u8 p.1) ∧ w.cell? ⟨b, o + j * 2 + 1, none⟩ = some (.int .u8 p.2)) (u0 : ∀ p ∈ z, 0 ≤ p.1 ∧ p.1 < 256 ∧ 0 ≤ p.2 ∧ p.2 < 256)
    (w2 : (A3 = none ∧ n3 = 0 ∧ c3 = 0 ∧ zs = []) ∨ ∃ x, A3 = some x ∧ n3 ≤ c3 ∧ c3 ≤ maxLen ∧ zs.length = c3 ∧ (∀ i, i < zs.length → w.cell? (x.add i) = some (.int .u8 (zs.getD i 0))) ∧ ∀ n ∈ zs, (Lit.int .u8 n).wf = true) (y2 : n3 * 1 ≤ 140737488351232) :
    Calls Try.prog 7 #[.slice A1 n1 c1, .slice A3 n3 c3] w fun e w' => e = .returned (.bool true) ∧ Below w.heap.size w w' := by
  obtain ⟨l, rfl, hC, hr, hc⟩ := DskOr.open_bytes w2
  exact walk A1 n1 c1 z A3 c3 l w w0 y0 u0 hC hr (fun h ad ha => by
    obtain ⟨b, o, e, hb, _⟩ := hc h
    rw [e] at ha
    obtain rfl := Option.some.inj ha
    exact hb)
end Go.Proofs.Ytbmhfmkfkdbmdaa.Dsk5
end
