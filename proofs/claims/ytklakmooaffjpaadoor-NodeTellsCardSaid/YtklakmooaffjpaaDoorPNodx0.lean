import Derived.Test.YtklakmooaffjpaaDoorDgsO
import Derived.Test.YtklakmooaffjpaaDoorDgsE
import Derived.Test.YtklakmooaffjpaaDoorNodR
import Derived.Test.YtklakmooaffjpaaDoorProg
import Derived.Below
import Derived.Deep.Draws
import Derived.Deep.AppendLies
import Derived.Maps.AppendAt
import Derived.OwnWalk
import Derived.Laws.BytesArg
import Derived.Laws.MakeOwn
import Derived.Laws.OwnMore
import Derived.Deep.OwnRows
import Derived.Tactics
import Derived.Lib.ConvBytes
import Derived.Laws.Slices
import Derived.WalkKit
import Derived.KernelRfl
import Derived.RowKit3
import Derived.Deep.LoopGhost
import Derived.Deep.QuietTactic
import Derived.BigQuiet
import Derived.WideLaws
import Derived.Deep.DeepCutAuto
import Derived.Deep.CutBlock
import Derived.Deep.RegionHeld3
import Derived.Laws.Rows
import Derived.Lib.AppendStr
import Derived.ArgAppend
import Derived.Laws.IdiomCopy
import Derived.OrdersHeld
import Derived.Laws.BitsLemmas
import Derived.RowKit
import Derived.Test.YtklakmooaffjpaaDoorWWords
import Derived.Test.YtklakmooaffjpaaDoorWNEv
import Derived.Test.YtklakmooaffjpaaDoorWGuard
import Derived.Test.YtklakmooaffjpaaDoorWMore
import Derived.Test.YtklakmooaffjpaaDoorSQ
import Derived.Test.YtklakmooaffjpaaDoorDgsR
section
/-
  The reference's With, Of, Block, walked by hand.
-/
namespace Go.Proofs.YtklakmooaffjpaaDoor.DgsA
open Go.RowKit Go.Proofs.YtklakmooaffjpaaDoorW.PrintWords Go.Proofs.YtklakmooaffjpaaDoorW.PrintLast Go.Proofs.YtklakmooaffjpaaDoorW.PrintMore Go.Proofs.YtklakmooaffjpaaDoor.Cm Go.Proofs.YtklakmooaffjpaaDoor.Str Go.Proofs.YtklakmooaffjpaaDoor.DgsP Go.Proofs.YtklakmooaffjpaaDoor.DgsS Go.Proofs.YtklakmooaffjpaaDoor.DgsB Go.Proofs.YtklakmooaffjpaaDoor.DgsL Go.Proofs.YtklakmooaffjpaaDoor.DgsO Go.Proofs.YtklakmooaffjpaaDoor.DgsD Go.Proofs.YtklakmooaffjpaaDoor.DgsT Go.Proofs.YtklakmooaffjpaaDoor.DgsE Go.Proofs.YtklakmooaffjpaaDoor.PDgs
set_option linter.unusedVariables false
theorem run_index_str {P : Program} (W : World) {T : TypeId} (hT : P.underlying T = some .string) (s : ByteArray) (k : IntKind) (i : Int) (h0 : 0 ≤ i) (h1 : i < (s.size : Int)) :
    (Instr.index T (.string s) (.int k i)).run P W = .ok (.int .u8 (bt s i)) W := by
  have h2 : i.toNat < s.size := by omega
  simp [Instr.index, run_underlying hT, asIntOf, h0, h2, bt, go_sem]
set_option maxRecDepth 100000 in
set_option maxHeartbeats 8000000 in
theorem with_c (s : ByteArray) (hs : s.size ≤ 1000000) (w : World) : Calls Tryd.prog 48 #[.string s, .agg (vals .u32 beg), .agg (vals .u32 kt)] w fun e w' => e = .returned (.string (strOfNums (ofB (bytesOf s)))) ∧ Below w.heap.size w w' := by
  obtain ⟨kp, hkp⟩ := rpad_eq s.size (by omega) (s.size : Int) (by unfold mx; split <;> omega)
  have CP := Lib.hid fun W => r4Pad.calls kp (s.size : Int) _ W hkp
  have Hs := Lib.hid hs
  obtain ⟨B, hB⟩ : ∃ B, B = w.heap.size := ⟨_, rfl⟩
  clear hs hkp
  go_enter Tryd.func48, Tryd.ntmps48
  go_wp2_with fail
  generalize hW : (World.alloc (World.alloc w _) _) = W
  have kb : Blk .u32 W B 60 beg := by rw [← hW, hB]; exact bA (blk_new w _) _
  have kk : Blk .u32 W (B + 1) 81 kt := by rw [← hW]; exact blk_new' _ _ _ (by simp [hB])
  have kB : Below B w W := by rw [← hW, hB]; exact wA (wA (Below.refl _ _) _) _
  have hz : B + 2 ≤ W.heap.size := by rw [← hW, hB]; simp
  rw [← hB]
  obtain ⟨B1, e1⟩ : ∃ x, x = B + 1 := ⟨_, rfl⟩
  rw [← e1] at kk ⊢
  have l1 : B < B1 := by omega
  have hz1 : B1 < W.heap.size := by omega
  have HB := Lib.hid hB
  clear hW hB e1 hz
  refine (CP.out _).mono ?_
  rintro e w1 ⟨rfl, hB1⟩
  clear CP
  replace kb := kb.below hB1
  replace kk := kk.below hB1
  replace kB := kB.trans (hB1.mono (by omega))
  replace hz1 := Nat.lt_of_lt_of_le hz1 hB1.size
  clear hB1
  obtain ⟨p, hp⟩ : ∃ p, p = strOfNums (padB s.size) := ⟨_, rfl⟩
  rw [← hp]
  have hpz : p.size = zr s.size + 9 := by rw [hp, str_size, padB_len]
  have hcat : s.size + p.size ≤ 9223372036854775807 := by
    have h3 := Hs.out
    have hz63 : zr s.size ≤ 63 := by unfold zr; omega
    omega
  have HP := Lib.hid hp
  have HKB := Lib.hid kb
  have HKK := Lib.hid kk
  have HKBB := Lib.hid kB
  have HZ := Lib.hid hz1
  clear hp hpz kb kk kB hz1
  go_wp2_with fail
  obtain ⟨u, hu⟩ : ∃ u, u = s ++ p := ⟨_, rfl⟩
  rw [← hu]
  have hub : bytesOf u = full (bytesOf s) := by rw [hu, HP.out, bytes_app, bytes_str _ (R_padB _), full, len_bytesOf]
  have huz : u.size = 64 * ((full (bytesOf s)).length / 64) := by rw [← full_64, ← hub, len_bytesOf]
  obtain ⟨T, hT⟩ : ∃ T, T = full (bytesOf s) := ⟨_, rfl⟩
  obtain ⟨n, hn⟩ : ∃ n, n = T.length / 64 := ⟨_, rfl⟩
  rw [← hT] at hub huz
  rw [← hn] at huz
  have hun : n ≤ 100000 := by
    have h1 : u.size = s.size + p.size := by rw [hu]; exact ByteArray.size_append
    have h2 : p.size = zr s.size + 9 := by rw [HP.out, str_size, padB_len]
    have h3 := Hs.out
    have hz63 : zr s.size ≤ 63 := by unfold zr; omega
    omega
  have hTl : T.length = 64 * n := by rw [← hub, len_bytesOf, huz]
  have hTR : R T := by rw [← hub]; exact R_bytesOf u
  have HN := Lib.hid hn
  have HT := Lib.hid hT
  have HUB := Lib.hid hub
  have HUZ := Lib.hid huz
  have HTL := Lib.hid hTl
  have HTR := Lib.hid hTR
  have USZ := Lib.hid (show (u.size : Int) = 64 * (n : Int) by omega)
  have uz2 : (u.size : Int) ≤ 9223372036854775807 := by omega
  clear hcat hT hn hu hub huz hTl hTR HP
  go_loopw [8] (fun v5 w' => ∃ m, v5 = .int .i64 ((64 * m : Nat) : Int) ∧ A0_ (m ≤ n) ∧ A0_ (Blk .u32 w' B 60 (hsAt T m)) ∧ A0_ (Blk .u32 w' B1 81 kt) ∧ A0_ (Below B w w') ∧ B1 < w'.heap.size) (fun v5 _ => 64 * n - (intOf v5).toNat)
  case atStart => exact ⟨0, rfl, ⟨by omega⟩, ⟨HKB.out⟩, ⟨HKK.out⟩, ⟨HKBB.out⟩, HZ.out⟩
  case round =>
    clear HKB HKBB HKK HZ
    obtain ⟨m, rfl, hm, kb, kk, kB, hz⟩ := hrel
    by_cases hlt : m < n
    · have p1 : decide (((64 * m : Nat) : Int) < (u.size : Int)) = true := decide_eq_true (by have := USZ.out; omega)
      obtain ⟨a, ha⟩ : ∃ a, a = 64 * m := ⟨_, rfl⟩
      rw [← ha] at p1 ⊢
      have han : (a : Int) + 64 ≤ (u.size : Int) := by have := USZ.out; omega
      have han2 : a < u.size := by have := USZ.out; omega
      have HA := Lib.hid ha
      clear ha
      obtain ⟨bs, hbs⟩ : ∃ bs, bs = nat ((T.drop a).take 64) := ⟨_, rfl⟩
      have hbl : bs.length = 64 := by rw [hbs, nat_len, List.length_take, List.length_drop, HTL.out]; have := HA.out; omega
      have hbM : ∀ x ∈ bs, x < 256 := by rw [hbs]; exact nat_lt (R_take (R_drop HTR.out _) _)
      have hbt : ∀ j : Nat, j < 64 → bt u ((a + j : Nat) : Int) = ((bs.getD j 0 : Nat) : Int) := by
        intro j hj
        have h1 : a + j < T.length := by rw [HTL.out]; have := HA.out; omega
        have h2 := HTR.out (T[a + j]) (List.getElem_mem h1)
        rw [bt_rd, HUB.out, hbs]
        simp only [rd, Int.toNat_natCast, nat, List.getD_eq_getElem?_getD, List.getElem?_map, List.getElem?_take_of_lt hj, List.getElem?_drop, List.getElem?_eq_getElem h1, Option.map_some, Option.getD_some]
        omega
      have HBS := Lib.hid hbs
      have HBL := Lib.hid hbl
      have HBM := Lib.hid hbM
      have HBT := Lib.hid hbt
      have CB := Lib.hid fun W => step_c (hsAt T m) bs kt (hsAt_len T m) (hsAt_lt T m) hbl hbM (by decide) W
      rw [DgsE.step_block (hsAt T m) bs hbM] at CB
      clear hbs hbl hbM hbt
      go_wp2_with fail
      generalize hW : (World.alloc wr _) = W2
      obtain ⟨C, hC⟩ : ∃ C, C = wr.heap.size := ⟨_, rfl⟩
      rw [← hC]
      have k0 : Blk .u32 W2 B 60 (hsAt T m) := by rw [← hW]; exact kb.out.alloc _
      have k2 : Blk .u32 W2 B1 81 kt := by rw [← hW]; exact kk.out.alloc _
      have k1 : Blk .u8 W2 C 62 (DgsD.part bs 0) := by rw [← hW, hC, part_zero, HBL.out]; exact blk_new wr _
      have hz2 : B1 < W2.heap.size := by rw [← hW]; simp; omega
      have kB2 : Below B w W2 := by rw [← hW]; exact kB.out.alloc (by rw [HB.out]; exact kB.out.size) _
      have hBC : B1 < C := by rw [hC]; exact hz
      clear hW hC kb kB kk hz
      go_loopw [10] (fun v7 w' => ∃ j, v7 = .int .i64 (j : Nat) ∧ A0_ (j ≤ 64) ∧ A0_ (Blk .u32 w' B 60 (hsAt T m)) ∧ A0_ (Blk .u32 w' B1 81 kt) ∧ A0_ (Blk .u8 w' C 62 (DgsD.part bs j)) ∧ A0_ (Below B w w') ∧ B1 < w'.heap.size) (fun v7 _ => 64 - (intOf v7).toNat)
      case atStart => exact ⟨0, rfl, ⟨by omega⟩, ⟨k0⟩, ⟨k2⟩, ⟨k1⟩, ⟨kB2⟩, hz2⟩
      case round =>
        clear k0 k1 k2 kB2 hz2
        obtain ⟨j, rfl, hj, k0, k2, k1, kB, hz⟩ := hrel
        by_cases hl2 : j < 64
        · have p2 : decide ((j : Int) < 64) = true := decide_eq_true (by omega)
          have p3 : (j : Int) < 64 := by omega
          obtain ⟨y, hy⟩ : ∃ y, y = bs.getD j 0 := ⟨_, rfl⟩
          have hidx := fun W => run_index_str (P := Tryd.prog) W Tryd.underlying9 u .i64 ((a : Int) + (j : Int)) (by omega) (by omega)
          have hbt := HBT.out j hl2
          rw [← hy, Int.natCast_add] at hbt
          rw [hbt] at hidx
          have f1 := k1.out.free j
          have c1 := k1.out.cell j (by rw [part_len _ _ (by rw [HBL.out]; exact hj.out), HBL.out]; exact hl2)
          obtain ⟨z, hze⟩ : ∃ z, z = (DgsD.part bs j).getD j 0 := ⟨_, rfl⟩
          rw [← hze] at c1
          have HY := Lib.hid hy
          clear hy hbt hze
          go_wp2_with fail
          have g1 := k1.out.put j y (by rw [part_len _ _ (by rw [HBL.out]; exact hj.out), HBL.out]; exact hl2)
          rw [HY.out, part_set bs j (by rw [HBL.out]; exact hl2), ← HY.out] at g1
          refine ⟨⟨j + 1, by simp, ⟨hl2⟩, ⟨k0.out.far _ _ (by show B ≠ C; omega)⟩, ⟨k2.out.far _ _ (by show B1 ≠ C; omega)⟩, ⟨g1⟩, ⟨kB.out.setCell (by show B ≤ C; omega) _⟩, by simpa using hz⟩, by simp [intOf]; omega⟩
        · have h64 : j = 64 := by have := hj.out; omega
          subst h64
          have hpart : DgsD.part bs 64 = bs := by have := part_all bs; rwa [HBL.out] at this
          rw [hpart] at k1
          clear hj hl2 hpart
          go_wp2_with (first | ((with_reducible refine gD (N := 35) rfl ?_); refine wpList_load_blk rfl 60 (.tmp 4) rfl .u32 B (hsAt T m) 60 _ rfl k0.out Tryd.underlying60 rfl (by rw [hsAt_len]; exact size_eight) ?_) | ((with_reducible refine gD (N := 36) rfl ?_); refine wpList_load_blk rfl 62 (.tmp 9) rfl .u8 C bs 62 _ rfl k1.out Tryd.underlying62 rfl (by rw [HBL.out]; exact size_bytes) ?_) | ((with_reducible refine gD (N := 37) rfl ?_); refine wpList_load_blk rfl 81 (.tmp 5) rfl .u32 B1 kt 81 _ rfl k2.out Tryd.underlying81 rfl size_words ?_))
          refine (CB.out _).mono ?_
          rintro e w7 ⟨rfl, hb7⟩
          have hh : blockL (hsAt T m) bs = hsAt T (m + 1) := by rw [hsAt, HBS.out, HA.out]
          rw [hh]
          have g0 := k0.out.below hb7
          have g2 := k2.out.below hb7
          have hz7 := Nat.lt_of_lt_of_le hz hb7.size
          have gB := kB.out.trans (hb7.mono (by rw [HB.out]; exact kB.out.size))
          clear hh k0 k1 k2 kB hb7 hz
          go_wp2_with ((with_reducible refine gS (p := 4) rfl ?_); refine wpList_store_blk rfl 60 (.tmp 4) (.tmp 38) rfl .u32 B (hsAt T m) (hsAt T (m + 1)) 60 rfl rfl g0 (by rw [hsAt_len]; exact size_eight) (by rw [hsAt_len, hsAt_len]) ?_)
          have hmn := hm.out
          have ha := HA.out
          refine ⟨⟨m + 1, val_int (by omega), ⟨by omega⟩, ⟨Blk.row (old := hsAt T m) g0⟩, ⟨Blk.row_far g2 _ _ (by omega)⟩, ⟨below_setRow gB (Nat.le_refl _) _⟩, by simpa using hz7⟩, by simp [intOf]; omega⟩
    · have hmn : m = n := by have := hm.out; omega
      subst hmn
      have p1 : decide (((64 * m : Nat) : Int) < (u.size : Int)) = false := decide_eq_false (by have := USZ.out; omega)
      obtain ⟨a, ha⟩ : ∃ a, a = 64 * m := ⟨_, rfl⟩
      rw [← ha] at p1 ⊢
      have han2 : ¬ a < u.size := by have := USZ.out; omega
      obtain ⟨H, hH⟩ : ∃ H, H = hsAt T m := ⟨_, rfl⟩
      have hHl : H.length = 8 := by rw [hH]; exact hsAt_len T m
      have hHM : ∀ x ∈ H, x < M := by rw [hH]; exact hsAt_lt T m
      have hof : ofB (bytesOf s) = outB H := by rw [ofB, ← HT.out, ← HN.out, hH]
      rw [← hH] at kb
      have HHL := Lib.hid hHl
      have HHM := Lib.hid hHM
      have HOF := Lib.hid hof
      clear ha hlt hm hH hHl hHM hof kk hz
      go_wp2_with fail
      go_loopw [11, 12] (fun v11 v12 w' => ∃ (j : Nat), v12 = .int .i64 (j : Nat) ∧ A0_ (j ≤ 8) ∧ A0_ (Kd.R (Kd.int .u8) 5 w' B (fun k => k ≠ B) v11 (outB (H.take j))) ∧ A0_ (Blk .u32 w' B 60 H) ∧ A0_ (Below B w w')) (fun _ v12 _ => (8 - intOf v12).toNat)
      case atStart => exact ⟨0, rfl, ⟨by omega⟩, ⟨Kd.R_nil _ _ _ _ _⟩, kb, kB⟩
      case round =>
        clear kb kB
        obtain ⟨j, rfl, hj, hR, kb, kB⟩ := hrel
        obtain ⟨A4, c4, rfl⟩ := Kd.R_slice hR.out
        by_cases hlt : j < 8
        · have p2 : decide ((j : Int) < 8) = true := decide_eq_true (by omega)
          have p3 : (j : Int) < 8 := by omega
          obtain ⟨y, hy⟩ : ∃ y, y = H.getD j 0 := ⟨_, rfl⟩
          have hyM : y < 4294967296 := by rw [hy]; exact getD_lt HHM.out (by decide) j
          have c1 := kb.out.cell j (by rw [HHL.out]; exact hlt)
          have hout := outB_take H j (by rw [HHL.out]; exact hlt)
          have hol := outB_len (H.take j)
          rw [← hy] at c1 hout
          have hlen : (outB (H.take j)).length ≤ 32 := by rw [hol, List.length_take]; omega
          have HO := Lib.hid hout
          have HLEN := Lib.hid hlen
          obtain ⟨L, hL⟩ : ∃ L, L = outB (H.take j) := ⟨_, rfl⟩
          rw [← hL] at HO HLEN
          rw [← hL] at hR ⊢
          have hsz : B ≤ wr.heap.size := by rw [HB.out]; exact kB.out.size
          have HO2 : Hid (outB (H.take (j + 1)) = L ++ [IntKind.u8.wrap ((y : Int) / 16777216), IntKind.u8.wrap ((y : Int) / 65536), IntKind.u8.wrap ((y : Int) / 256), IntKind.u8.wrap (y : Int)]) := Lib.hid (HO.out.trans (by simp only [IntKind.wrap_u8]; congr 2 <;> omega))
          have HYC := Lib.hid hy
          have hyc : H.getD j 0 = y := hy.symm
          have HYC2 := Lib.hid hyc
          clear hout hlen hy hol hL HO hyc
          go_wp2_with fail
          refine start_ (n := 23) (S := fun w' => w'.cell? { block := B, off := j } = some (.int .u32 (y : Int))) (ds := []) #[false, false, false, false, false, false, false, false, false, false, false, false, false, false, false, false, false, false, false, false, false, false, false] (by kernel_rfl) rfl rfl c1 (fun hHeld => ?_)
          have hR1 := Lib.hid (Kd.R_drew hR.out)
          have kb1 : Hid (Blk .u32 wr.drew B 60 H) := Lib.hid kb.out
          have kB1 := Lib.hid kB.out.drew
          have hsz1 : B ≤ wr.drew.heap.size := hsz
          clear c1 hR kb kB hsz
          generalize wr.drew = w5 at hHeld hR1 kb1 kB1 hsz1 ⊢
          refine take_ (i := 0) (N := some 43) (v := ?_) (a' := ?_) #[true, false, false, false, false, false, false, false, false, false, false, false, false, false, false, false, false, false, false, false, false, false, false] rfl rfl (by kernel_rfl) (fun _ _ _ h => h) (Or.inl ⟨by rfl, ?_⟩) hHeld ?_ ?_
          rotate_left
          · intro w' hS_
            go_simp
            with_reducible rfl
          rotate_left
          · simp only [Act.put, List.setIfInBounds_toArray, List.set_cons_zero, List.set_cons_succ]
            rfl
          refine take_ (i := 1) (N := some 44) (v := ?_) (a' := ?_) #[true, true, false, false, false, false, false, false, false, false, false, false, false, false, false, false, false, false, false, false, false, false, false] rfl rfl (by kernel_rfl) (fun _ _ _ h => h) (Or.inl ⟨by rfl, ?_⟩) hHeld ?_ ?_
          rotate_left
          · intro w' hS_
            go_simp
            with_reducible rfl
          rotate_left
          · simp only [Act.put, List.setIfInBounds_toArray, List.set_cons_zero, List.set_cons_succ]
            rfl
          refine take_ (i := 2) (N := some 45) (v := ?_) (a' := ?_) #[true, true, true, false, false, false, false, false, false, false, false, false, false, false, false, false, false, false, false, false, false, false, false] rfl rfl (by kernel_rfl) (fun _ _ _ h => h) (Or.inl ⟨by rfl, ?_⟩) hHeld ?_ ?_
          rotate_left
          · intro w' hS_
            go_simp
            with_reducible rfl
          rotate_left
          · simp only [Act.put, List.setIfInBounds_toArray, List.set_cons_zero, List.set_cons_succ]
            rfl
          refine take_ (i := 3) (N := some 46) (v := ?_) (a' := ?_) #[true, true, true, true, false, false, false, false, false, false, false, false, false, false, false, false, false, false, false, false, false, false, false] rfl rfl (by kernel_rfl) (fun _ _ _ h => h) (Or.inl ⟨by rfl, ?_⟩) hHeld ?_ ?_
          rotate_left
          · intro w' hS_
            go_simp
            with_reducible rfl
          rotate_left
          · simp only [Act.put, List.setIfInBounds_toArray, List.set_cons_zero, List.set_cons_succ]
            rfl
          refine take_ (i := 4) (N := some 47) (v := ?_) (a' := ?_) #[true, true, true, true, true, false, false, false, false, false, false, false, false, false, false, false, false, false, false, false, false, false, false] rfl rfl (by kernel_rfl) (fun _ _ _ h => h) (Or.inl ⟨by rfl, ?_⟩) hHeld ?_ ?_
          rotate_left
          · intro w' hS_
            go_simp
            with_reducible rfl
          rotate_left
          · simp only [Act.put, List.setIfInBounds_toArray, List.set_cons_zero, List.set_cons_succ]
            rfl
          refine take_ (i := 5) (N := some 48) (v := ?_) (a' := ?_) #[true, true, true, true, true, true, false, false, false, false, false, false, false, false, false, false, false, false, false, false, false, false, false] rfl rfl (by kernel_rfl) (fun _ _ _ h => h) (Or.inl ⟨by rfl, ?_⟩) hHeld ?_ ?_
          rotate_left
          · intro w' hS_
            go_simp
            with_reducible rfl
          rotate_left
          · simp only [Act.put, List.setIfInBounds_toArray, List.set_cons_zero, List.set_cons_succ]
            rfl
          refine take_ (i := 6) (N := some 49) (v := ?_) (a' := ?_) #[true, true, true, true, true, true, true, false, false, false, false, false, false, false, false, false, false, false, false, false, false, false, false] rfl rfl (by kernel_rfl) (fun _ _ _ h => h) (Or.inl ⟨by rfl, ?_⟩) hHeld ?_ ?_
          rotate_left
          · intro w' hS_
            go_simp
            with_reducible rfl
          rotate_left
          · simp only [Act.put, List.setIfInBounds_toArray, List.set_cons_zero, List.set_cons_succ]
            rfl
          refine take_ (i := 7) (N := some 50) (v := ?_) (a' := ?_) #[true, true, true, true, true, true, true, true, false, false, false, false, false, false, false, false, false, false, false, false, false, false, false] rfl rfl (by kernel_rfl) (fun _ _ _ h => h) (Or.inl ⟨by rfl, ?_⟩) hHeld ?_ ?_
          rotate_left
          · intro w' hS_
            go_simp
            with_reducible rfl
          rotate_left
          · simp only [Act.put, List.setIfInBounds_toArray, List.set_cons_zero, List.set_cons_succ]
            rfl
          refine take_ (i := 8) (N := some 51) (v := ?_) (a' := ?_) #[true, true, true, true, true, true, true, true, true, false, false, false, false, false, false, false, false, false, false, false, false, false, false] rfl rfl (by kernel_rfl) (fun _ _ _ h => h) (Or.inl ⟨by rfl, ?_⟩) hHeld ?_ ?_
          rotate_left
          · intro w' hS_
            go_simp
            with_reducible rfl
          rotate_left
          · simp only [Act.put, List.setIfInBounds_toArray, List.set_cons_zero, List.set_cons_succ]
            rfl
          refine take_ (i := 9) (N := some 52) (v := ?_) (a' := ?_) #[true, true, true, true, true, true, true, true, true, true, false, false, false, false, false, false, false, false, false, false, false, false, false] rfl rfl (by kernel_rfl) (fun _ _ _ h => h) (Or.inl ⟨by rfl, ?_⟩) hHeld ?_ ?_
          rotate_left
          · intro w' hS_
            go_simp
            with_reducible rfl
          rotate_left
          · simp only [Act.put, List.setIfInBounds_toArray, List.set_cons_zero, List.set_cons_succ]
            rfl
          refine take_ (i := 10) (N := some 53) (v := ?_) (a' := ?_) #[true, true, true, true, true, true, true, true, true, true, true, false, false, false, false, false, false, false, false, false, false, false, false] rfl rfl (by kernel_rfl) (fun _ _ _ h => h) (Or.inl ⟨by rfl, ?_⟩) hHeld ?_ ?_
          rotate_left
          · intro w' hS_
            go_simp
            with_reducible rfl
          rotate_left
          · simp only [Act.put, List.setIfInBounds_toArray, List.set_cons_zero, List.set_cons_succ]
            rfl
          refine take_ (i := 11) (N := some 54) (v := ?_) (a' := ?_) #[true, true, true, true, true, true, true, true, true, true, true, true, false, false, false, false, false, false, false, false, false, false, false] rfl rfl (by kernel_rfl) (fun _ _ _ h => h) (Or.inl ⟨by rfl, ?_⟩) hHeld ?_ ?_
          rotate_left
          · intro w' hS_
            go_simp
            with_reducible rfl
          rotate_left
          · simp only [Act.put, List.setIfInBounds_toArray, List.set_cons_zero, List.set_cons_succ]
            rfl
          refine take_ (i := 12) (N := some 55) (v := ?_) (a' := ?_) #[true, true, true, true, true, true, true, true, true, true, true, true, true, false, false, false, false, false, false, false, false, false, false] rfl rfl (by kernel_rfl) (fun _ _ _ h => h) (Or.inl ⟨by rfl, ?_⟩) hHeld ?_ ?_
          rotate_left
          · intro w' hS_
            go_simp
            with_reducible rfl
          rotate_left
          · simp only [Act.put, List.setIfInBounds_toArray, List.set_cons_zero, List.set_cons_succ]
            rfl
          refine take_ (i := 13) (N := some 56) (v := ?_) (a' := ?_) #[true, true, true, true, true, true, true, true, true, true, true, true, true, true, false, false, false, false, false, false, false, false, false] rfl rfl (by kernel_rfl) (fun _ _ _ h => h) (Or.inl ⟨by rfl, ?_⟩) hHeld ?_ ?_
          rotate_left
          · intro w' hS_
            go_simp
            with_reducible rfl
          rotate_left
          · simp only [Act.put, List.setIfInBounds_toArray, List.set_cons_zero, List.set_cons_succ]
            rfl
          refine take_ (i := 14) (N := some 57) (v := ?_) (a' := ?_) #[true, true, true, true, true, true, true, true, true, true, true, true, true, true, true, false, false, false, false, false, false, false, false] rfl rfl (by kernel_rfl) (fun _ _ _ h => h) (Or.inl ⟨by rfl, ?_⟩) hHeld ?_ ?_
          rotate_left
          · intro w' hS_
            go_simp
            with_reducible rfl
          rotate_left
          · simp only [Act.put, List.setIfInBounds_toArray, List.set_cons_zero, List.set_cons_succ]
            rfl
          refine take_ (i := 15) (N := some 58) (v := ?_) (a' := ?_) #[true, true, true, true, true, true, true, true, true, true, true, true, true, true, true, true, false, false, false, false, false, false, false] rfl rfl (by kernel_rfl) (fun _ _ _ h => h) (Or.inl ⟨by rfl, ?_⟩) hHeld ?_ ?_
          rotate_left
          · intro w' hS_
            go_simp
            with_reducible rfl
          rotate_left
          · simp only [Act.put, List.setIfInBounds_toArray, List.set_cons_zero, List.set_cons_succ]
            rfl
          refine take_ (i := 16) (N := some 59) (v := ?_) (a' := ?_) #[true, true, true, true, true, true, true, true, true, true, true, true, true, true, true, true, true, false, false, false, false, false, false] rfl rfl (by kernel_rfl) (fun _ _ _ h => h) (Or.inl ⟨by rfl, ?_⟩) hHeld ?_ ?_
          rotate_left
          · intro w' hS_
            go_simp
            with_reducible rfl
          rotate_left
          · simp only [Act.put, List.setIfInBounds_toArray, List.set_cons_zero, List.set_cons_succ]
            rfl
          refine take_ (i := 17) (N := some 60) (v := ?_) (a' := ?_) #[true, true, true, true, true, true, true, true, true, true, true, true, true, true, true, true, true, true, false, false, false, false, false] rfl rfl (by kernel_rfl) (fun _ _ _ h => h) (Or.inl ⟨by rfl, ?_⟩) hHeld ?_ ?_
          rotate_left
          · intro w' hS_
            go_simp
            with_reducible rfl
          rotate_left
          · simp only [Act.put, List.setIfInBounds_toArray, List.set_cons_zero, List.set_cons_succ]
            rfl
          refine take_ (i := 18) (N := some 61) (v := ?_) (a' := ?_) #[true, true, true, true, true, true, true, true, true, true, true, true, true, true, true, true, true, true, true, false, false, false, false] rfl rfl (by kernel_rfl) (fun _ _ _ h => h) (Or.inl ⟨by rfl, ?_⟩) hHeld ?_ ?_
          rotate_left
          · intro w' hS_
            go_simp
            with_reducible rfl
          rotate_left
          · simp only [Act.put, List.setIfInBounds_toArray, List.set_cons_zero, List.set_cons_succ]
            rfl
          refine take_ (i := 19) (N := some 62) (v := ?_) (a' := ?_) #[true, true, true, true, true, true, true, true, true, true, true, true, true, true, true, true, true, true, true, true, false, false, false] rfl rfl (by kernel_rfl) (fun _ _ _ h => h) (Or.inl ⟨by rfl, ?_⟩) hHeld ?_ ?_
          rotate_left
          · intro w' hS_
            go_simp
            with_reducible rfl
          rotate_left
          · simp only [Act.put, List.setIfInBounds_toArray, List.set_cons_zero, List.set_cons_succ]
            rfl
          refine one_ (i := 20) (N := some 63) #[true, true, true, true, true, true, true, true, true, true, true, true, true, true, true, true, true, true, true, true, true, false, false] rfl rfl (by kernel_rfl) (by decide) (fun K hK => ?_)
          go_simp
          refine hK.out _ _ (by have h := (kb1.out.alloc (.cells #[.int .u8 (IntKind.u8.wrap ((y : Int) / 16777216)), .int .u8 (IntKind.u8.wrap ((y : Int) / 65536)), .int .u8 (IntKind.u8.wrap ((y : Int) / 256)), .int .u8 (IntKind.u8.wrap (y : Int))] 5)).cell j (by rw [HHL.out]; exact hlt); rw [HYC2.out] at h; exact h) (fun hHeld => ?_)
          clear hK K
          refine one_ (i := 21) (N := some 64) #[true, true, true, true, true, true, true, true, true, true, true, true, true, true, true, true, true, true, true, true, true, true, false] rfl rfl (by kernel_rfl) (by decide) (fun K hK => ?_)
          refine Kd.R_append_rows_step (Kd.int .u8) (w0 := w) B (by rfl) (.tmp 43) (.tmp 63) 42 5 (.int .u8 0) 1 rfl Tryd.underlying42 DgsO.info5 rfl (by decide) (by omega) (.slice A4 L.length c4) L [IntKind.u8.wrap ((y : Int) / 16777216), IntKind.u8.wrap ((y : Int) / 65536), IntKind.u8.wrap ((y : Int) / 256), IntKind.u8.wrap (y : Int)] (some ⟨w5.heap.size, 0, none⟩) 4 4 (fun k => k ≠ B) (fun _ => False) rfl rfl (Kd.R_alloc hR1.out _) (C_lit w5 _ .u8 [IntKind.u8.wrap ((y : Int) / 16777216), IntKind.u8.wrap ((y : Int) / 65536), IntKind.u8.wrap ((y : Int) / 256), IntKind.u8.wrap (y : Int)] (by simp)) (fun _ _ h => h) (fun _ h => h.elim) (fun k hk => by rw [World.size_alloc] at hk; omega) (kB1.out.alloc hsz1 _) (by rw [World.size_alloc]; omega) (by have := HLEN.out; simp; omega) ?_
          intro v41 w9 ho9 hb9 hg9 hat9
          have hne : some B ≠ (Value.slice A4 L.length c4).ownBlock := fun h => hR1.out.1 B h.symm rfl
          have kb9 : Blk .u32 w9 B 60 H := blk_grown (kb1.out.alloc _) hg9 hne
          refine hK.out _ _ (by have h := kb9.cell j (by rw [HHL.out]; exact hlt); rw [HYC2.out] at h; exact h) (fun hHeld => ?_)
          clear hK K
          refine norm_ (a' := ?_) ?_ ?_
          rotate_left
          · show Act.put _ (some 64) _ = _
            simp only [Act.put, List.setIfInBounds_toArray, List.set_cons_zero, List.set_cons_succ]
            rfl
          refine pure_ (i := 22) (N := some 11) (v := ?_) (a' := ?_) #[true, true, true, true, true, true, true, true, true, true, true, true, true, true, true, true, true, true, true, true, true, true, true] rfl rfl (by kernel_rfl) (fun _ _ _ h => h) (Or.inl ⟨by rfl, ?_⟩) ?_ ?_
          rotate_left
          · intro w'
            go_simp
            with_reducible rfl
          rotate_left
          · simp only [Act.put, List.setIfInBounds_toArray, List.set_cons_zero, List.set_cons_succ]
            rfl
          refine done_ (by kernel_rfl) ?_
          go_wp2_with fail
          refine ⟨⟨j + 1, by simp, ⟨by omega⟩, ⟨by rw [HO2.out]; exact ho9⟩, ⟨kb9⟩, ⟨hb9⟩⟩, by simp [intOf]; omega⟩
        · have h8 : j = 8 := by have := hj.out; omega
          subst h8
          clear hlt hj
          rw [List.take_of_length_le (by rw [HHL.out]; exact Nat.le_refl _), ← HOF.out] at hR
          rw [List.take_of_length_le (by rw [HHL.out]; exact Nat.le_refl _), ← HOF.out]
          obtain ⟨L, hL⟩ : ∃ L, L = ofB (bytesOf s) := ⟨_, rfl⟩
          have HL := Lib.hid hL
          rw [← hL] at hR ⊢
          clear hL
          have hcv := own_string (P := Tryd.prog) Tryd.underlying42 Tryd.underlying5 Tryd.underlying9 (Kd.own_of_R hR.out)
          go_wp2
          go_ret
          exact ⟨by rw [HL.out]; rfl, by rw [← HB.out]; exact kB.out⟩
section
variable {P : Program} {ops : Array Oper} {S : World → Prop}
end
set_option maxHeartbeats 1000000 in
theorem rof_c (s : ByteArray) (hs : s.size ≤ 1000000) (w : World) : Calls Tryd.prog 31 #[.string s] w fun e w' => e = .returned (.string (strOfNums (ofB (bytesOf s)))) ∧ Below w.heap.size w w' := by
  have C1 := Lib.hid start_c
  have C2 := Lib.hid consts_c
  have C3 := Lib.hid fun W => with_c s hs W
  have hC1 := Calm.refl w
  clear hs
  go_enter Tryd.func31, Tryd.ntmps31
  go_wp2_with fail
  repeat ((first | with_reducible refine (Calm.call hC1 (C1.out _)).mono ?_ | with_reducible refine (Calm.call hC1 (C2.out _)).mono ?_ | with_reducible refine (Calm.call hC1 (C3.out _)).mono ?_); rintro e w9 ⟨rfl, hC9⟩; clear hC1; have hC1 := hC9; clear hC9; go_wp2_with fail)
  go_ret
  exact ⟨rfl, hC1.below⟩
end Go.Proofs.YtklakmooaffjpaaDoor.DgsA
end

section
/-
  node.read: more rounds tell the same.
-/
namespace Go.Proofs.YtklakmooaffjpaaDoor.NodM
open Go.RowKit Go.Proofs.YtklakmooaffjpaaDoorW.PrintWords Go.Proofs.YtklakmooaffjpaaDoorW.PrintLast Go.Proofs.YtklakmooaffjpaaDoorW.PrintMore Go.Proofs.YtklakmooaffjpaaDoor.PNor Go.Proofs.YtklakmooaffjpaaDoor.NodR
set_option linter.unusedVariables false
end Go.Proofs.YtklakmooaffjpaaDoor.NodM
end

section
-- Written by a program of this session for this seat. Not trusted: Lean checks it.
namespace Go.Proofs.YtklakmooaffjpaaDoor.PNod
open Go.RowKit Go.Proofs.YtklakmooaffjpaaDoorW.PrintWords Go.Proofs.YtklakmooaffjpaaDoorW.PrintLast Go.Proofs.YtklakmooaffjpaaDoorW.PrintMore
attribute [local go_sem] max2_int min2_int max_two min_two max_three min_three max_four min_four   -- for this text's walks alone
set_option linter.unusedVariables false
set_option linter.unusedSimpArgs false
open Go.Proofs.YtklakmooaffjpaaDoor.HW Go.Proofs.YtklakmooaffjpaaDoor.DgsB



def errW : Option Int → Value
 | none => .nilIface
 | some c => .iface 0 (.int .i64 c)
theorem errW_none : errW none = .nilIface := rfl
theorem errW_some (c : Int) : errW (some c) = .iface 0 (.int .i64 c) := rfl

theorem info5 : (Tryd.prog.info? 5).map (fun i => (i.zero, i.size, i.bytes)) = some (some (.int .u8 0), 1, 1) := by kernel_rfl
theorem info9 : (Tryd.prog.info? 9).map (fun i => (i.zero, i.size, i.bytes)) = some (some (.string ⟨#[]⟩), 1, 16) := by kernel_rfl
theorem info83 : (Tryd.prog.info? 83).map (fun i => (i.zero, i.size, i.bytes)) = some (some (.int .u64 0), 1, 8) := by kernel_rfl
-- the values' own types

end Go.Proofs.YtklakmooaffjpaaDoor.PNod
end
