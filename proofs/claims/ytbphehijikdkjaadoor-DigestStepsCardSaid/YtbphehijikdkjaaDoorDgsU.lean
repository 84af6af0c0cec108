/-
  The law DigestSteps, walked by hand.
-/
import Derived.Test.YtbphehijikdkjaaDoorDgsW
import Derived.Test.YtbphehijikdkjaaDoorDgsD
namespace Go.Proofs.YtbphehijikdkjaaDoor.DgsU
open Go.RowKit Go.Proofs.YtbphehijikdkjaaDoorW.PrintWords Go.Proofs.YtbphehijikdkjaaDoorW.PrintMore Go.Proofs.YtbphehijikdkjaaDoor.Cm Go.Proofs.YtbphehijikdkjaaDoor.Str Go.Proofs.YtbphehijikdkjaaDoor.DgsP Go.Proofs.YtbphehijikdkjaaDoor.DgsS Go.Proofs.YtbphehijikdkjaaDoor.DgsB Go.Proofs.YtbphehijikdkjaaDoor.DgsL Go.Proofs.YtbphehijikdkjaaDoor.DgsO Go.Proofs.YtbphehijikdkjaaDoor.DgsX Go.Proofs.YtbphehijikdkjaaDoor.DgsW Go.Proofs.YtbphehijikdkjaaDoor.DgsD Go.Proofs.YtbphehijikdkjaaDoor.PDgs
set_option linter.unusedVariables false
theorem rd_outB (h : List Nat) : ∀ i : Nat, i < 4 * h.length → rd (outB h) (i : Int) = ((h.getD (i / 4) 0 / 2 ^ (24 - 8 * (i % 4)) % 256 : Nat) : Int) := by
  induction h with
  | nil => intro i h; simp at h
  | cons x l ih =>
    intro i hi
    match i with
    | 0 => rfl
    | 1 => rfl
    | 2 => rfl
    | 3 => simp [rd, outB]
    | i + 4 =>
      have h2 := ih i (by simp at hi; omega)
      have e1 : rd (outB (x :: l)) ((i + 4 : Nat) : Int) = rd (outB l) (i : Int) := by simp only [rd, Int.toNat_natCast]; rfl
      rw [e1, h2, show (i + 4) % 4 = i % 4 by omega, show (i + 4) / 4 = i / 4 + 1 by omega, List.getD_cons_succ]
set_option maxRecDepth 100000 in
set_option maxHeartbeats 8000000 in
theorem walk (s : ByteArray) (w : World) (hG : Glob w) (hs0 : s.size ≤ 140737488351232) : Calls Tryd.prog 4 #[.string s] w fun e w' => e = .returned (.bool true) ∧ Below w.heap.size w w' := by
  have WK := Lib.hid fun W (g : Glob W) => wakes_c W g
  have HG := Lib.hid hG
  clear hG
  by_cases hs : s.size ≤ 400
  · have p0 : decide ((400 : Int) < (s.size : Int)) = false := decide_eq_false (by omega)
    have CP := Lib.hid fun W => digest_Pad.calls 9 (s.size : Int) _ W (pad_eq s.size (by omega) _ (by unfold mx; split <;> omega))
    have Hs := Lib.hid hs
    obtain ⟨B0, hB0⟩ : ∃ B, B = w.heap.size := ⟨_, rfl⟩
    have HB0 := Lib.hid hB0
    clear hs hs0 hB0
    go_enter Tryd.func4, Tryd.ntmps4
    go_wp2_with fail
    generalize hW : (World.alloc w _) = W
    obtain ⟨B, hB⟩ : ∃ B, B = w.heap.size := ⟨_, rfl⟩
    rw [← hB]
    have kb : Blk .u32 W B 23 beg := by rw [← hW, hB]; exact blk_new w _
    have kB : Below B w W := by rw [← hW, hB]; exact below_alloc (Below.refl _ _) _
    have hz : B + 1 ≤ W.heap.size := by rw [← hW, hB]; simp
    have HB := Lib.hid hB
    clear hW hB HB0
    refine (CP.out _).mono ?_
    rintro e w1 ⟨rfl, hB1⟩
    clear CP
    replace kb := kb.below hB1
    replace kB := kB.trans (hB1.mono (by omega))
    replace hz := Nat.le_trans hz hB1.size
    clear hB1
    obtain ⟨p, hp⟩ : ∃ p, p = strOfNums (padB s.size) := ⟨_, rfl⟩
    rw [← hp]
    have hpz : p.size = zr s.size + 9 := by rw [hp, str_size, padB_len]
    have hz63 : zr s.size ≤ 63 := by unfold zr; omega
    have h64 := zr_full s.size
    have hcat : s.size + p.size ≤ 9223372036854775807 := by have h3 := Hs.out; omega
    have m1 : ((s.size : Int) + (p.size : Int)) % 64 = 0 := by omega
    have m2 : decide ((p.size : Int) < 9) = false := decide_eq_false (by omega)
    have m3 : decide (72 < (p.size : Int)) = false := decide_eq_false (by omega)
    have m6 : 9 ≤ (p.size : Int) := by omega
    have m4 : (s.size : Int) ≤ 400 := by have := Hs.out; omega
    have m5 : (p.size : Int) ≤ 72 := by omega
    have HP := Lib.hid hp
    have HPZ := Lib.hid hpz
    have H63 := Lib.hid hz63
    have H64 := Lib.hid h64
    have HKB := Lib.hid kb
    have HKBB := Lib.hid kB
    clear hp hpz hz63 h64 kb kB
    go_wp2_with fail
    obtain ⟨u, hu⟩ : ∃ u, u = s ++ p := ⟨_, rfl⟩
    rw [← hu]
    have hub : bytesOf u = full (bytesOf s) := by rw [hu, HP.out, bytes_app, bytes_str _ (R_padB _), full, len_bytesOf]
    have huz : u.size = 64 * ((full (bytesOf s)).length / 64) := by rw [← full_64, ← hub, len_bytesOf]
    obtain ⟨T, hT⟩ : ∃ T, T = full (bytesOf s) := ⟨_, rfl⟩
    obtain ⟨n, hn⟩ : ∃ n, n = T.length / 64 := ⟨_, rfl⟩
    rw [← hT] at hub huz
    rw [← hn] at huz
    have hun : n ≤ 100 := by
      have h1 : u.size = s.size + p.size := by rw [hu]; exact ByteArray.size_append
      have h3 := Hs.out
      omega
    have hTl : T.length = 64 * n := by rw [← hub, len_bytesOf, huz]
    have hTR : R T := by rw [← hub]; exact R_bytesOf u
    have HN := Lib.hid hn
    have HT := Lib.hid hT
    have HUB := Lib.hid hub
    have HUZ := Lib.hid huz
    have HTL := Lib.hid hTl
    have HTR := Lib.hid hTR
    have USZ := Lib.hid (show (u.size : Int) = 64 * (n : Int) by omega)
    have uz2 : (u.size : Int) ≤ 9223372036854775807 := by omega
    clear m1 m2 m3 m4 m5 m6 hcat hT hn hu hub huz hTl hTR HP HPZ H63 H64
    go_loopw [5] (fun v5 w' => ∃ m, v5 = .int .i64 ((64 * m : Nat) : Int) ∧ Aside0 (m ≤ n) ∧ Aside0 (Blk .u32 w' B 23 (hsAt T m)) ∧ Aside0 (Below B w w')) (fun v5 _ => 64 * n - (intOf v5).toNat)
    case atStart => exact ⟨0, rfl, ⟨by omega⟩, ⟨HKB.out⟩, ⟨HKBB.out⟩⟩
    case round =>
      clear HKB HKBB hz
      obtain ⟨m, rfl, hm, kb, kB⟩ := hrel
      by_cases hlt : m < n
      · have p1 : decide (((64 * m : Nat) : Int) < (u.size : Int)) = true := decide_eq_true (by have := USZ.out; omega)
        obtain ⟨a, ha⟩ : ∃ a, a = 64 * m := ⟨_, rfl⟩
        rw [← ha] at p1 ⊢
        have han : (a : Int) + 64 ≤ (u.size : Int) := by have := USZ.out; omega
        have han2 : a < u.size := by have := USZ.out; omega
        have HA := Lib.hid ha
        clear ha
        obtain ⟨bs, hbs⟩ : ∃ bs, bs = nat ((T.drop a).take 64) := ⟨_, rfl⟩
        have hbl : bs.length = 64 := by rw [hbs, nat_len, List.length_take, List.length_drop, HTL.out]; have := HA.out; omega
        have hbM : ∀ x ∈ bs, x < 256 := by rw [hbs]; exact nat_lt (R_take (R_drop HTR.out _) _)
        have hbt : ∀ j : Nat, j < 64 → bt u ((a + j : Nat) : Int) = ((bs.getD j 0 : Nat) : Int) := by
          intro j hj
          have h1 : a + j < T.length := by rw [HTL.out]; have := HA.out; omega
          have h2 := HTR.out (T[a + j]) (List.getElem_mem h1)
          rw [bt_rd, HUB.out, hbs]
          simp only [rd, Int.toNat_natCast, nat, List.getD_eq_getElem?_getD, List.getElem?_map, List.getElem?_take_of_lt hj, List.getElem?_drop, List.getElem?_eq_getElem h1, Option.map_some, Option.getD_some]
          omega
        have HBS := Lib.hid hbs
        have HBL := Lib.hid hbl
        have HBM := Lib.hid hbM
        have HBT := Lib.hid hbt
        have CB := Lib.hid fun W (hb : Below B w W) => block_c (hsAt T m) bs (hsAt_len T m) (hsAt_lt T m) hbl hbM W (HG.out.below (by rw [← HB.out]; exact hb))
        clear hbs hbl hbM hbt
        go_wp2_with fail
        generalize hW : (World.alloc wr _) = W2
        obtain ⟨C, hC⟩ : ∃ C, C = wr.heap.size := ⟨_, rfl⟩
        rw [← hC]
        have k0 : Blk .u32 W2 B 23 (hsAt T m) := by rw [← hW]; exact kb.out.alloc _
        have k1 : Blk .u8 W2 C 24 (DgsD.part bs 0) := by rw [← hW, hC, part_zero, HBL.out]; exact blk_new wr _
        have kB2 : Below B w W2 := by rw [← hW]; exact kB.out.alloc (by rw [HB.out]; exact kB.out.size) _
        have hBC : B < C := by rw [hC]; exact blk_lt kb.out
        clear hW hC kb kB
        go_loopw [7] (fun v7 w' => ∃ j, v7 = .int .i64 (j : Nat) ∧ Aside0 (j ≤ 64) ∧ Aside0 (Blk .u32 w' B 23 (hsAt T m)) ∧ Aside0 (Blk .u8 w' C 24 (DgsD.part bs j)) ∧ Aside0 (Below B w w')) (fun v7 _ => 64 - (intOf v7).toNat)
        case atStart => exact ⟨0, rfl, ⟨by omega⟩, ⟨k0⟩, ⟨k1⟩, ⟨kB2⟩⟩
        case round =>
          clear k0 k1 kB2
          obtain ⟨j, rfl, hj, k0, k1, kB⟩ := hrel
          by_cases hl2 : j < 64
          · have p2 : decide ((j : Int) < 64) = true := decide_eq_true (by omega)
            have p3 : (j : Int) < 64 := by omega
            obtain ⟨y, hy⟩ : ∃ y, y = bs.getD j 0 := ⟨_, rfl⟩
            have hidx := fun W => run_index_str (P := Tryd.prog) W Tryd.underlying9 u .i64 ((a : Int) + (j : Int)) (by omega) (by omega)
            have hbt := HBT.out j hl2
            rw [← hy, Int.natCast_add] at hbt
            rw [hbt] at hidx
            have f1 := k1.out.free j
            have c1 := k1.out.cell j (by rw [part_len _ _ (by rw [HBL.out]; exact hj.out), HBL.out]; exact hl2)
            obtain ⟨z, hze⟩ : ∃ z, z = (DgsD.part bs j).getD j 0 := ⟨_, rfl⟩
            rw [← hze] at c1
            have HY := Lib.hid hy
            clear hy hbt hze
            go_wp2_with fail
            have g1 := k1.out.put j y (by rw [part_len _ _ (by rw [HBL.out]; exact hj.out), HBL.out]; exact hl2)
            rw [HY.out, part_set bs j (by rw [HBL.out]; exact hl2), ← HY.out] at g1
            refine ⟨⟨j + 1, by simp, ⟨hl2⟩, ⟨k0.out.far _ _ (by show B ≠ C; omega)⟩, ⟨g1⟩, ⟨kB.out.setCell (by show B ≤ C; omega) _⟩⟩, by simp [intOf]; omega⟩
          · have h64 : j = 64 := by have := hj.out; omega
            subst h64
            have hpart : DgsD.part bs 64 = bs := by have := part_all bs; rwa [HBL.out] at this
            rw [hpart] at k1
            clear hj hl2 hpart
            go_wp2_with (first | ((with_reducible refine gate_dst (N := 57) rfl ?_); refine wpList_load_blk rfl 23 (.tmp 3) rfl .u32 B (hsAt T m) 23 _ rfl k0.out Tryd.underlying23 rfl (by rw [hsAt_len]; exact size_eight) ?_) | ((with_reducible refine gate_dst (N := 58) rfl ?_); refine wpList_load_blk rfl 24 (.tmp 6) rfl .u8 C bs 24 _ rfl k1.out Tryd.underlying24 rfl (by rw [HBL.out]; exact size_bytes) ?_))
            refine (CB.out _ kB.out).mono ?_
            rintro e w7 ⟨rfl, hb7⟩
            have hh : blockL (hsAt T m) bs = hsAt T (m + 1) := by rw [hsAt, HBS.out, HA.out]
            rw [hh]
            have g0 := k0.out.below hb7
            have gB := kB.out.trans (hb7.mono (by rw [HB.out]; exact kB.out.size))
            clear hh k0 k1 kB hb7
            go_wp2_with ((with_reducible refine gate_store (p := 3) rfl ?_); refine wpList_store_blk rfl 23 (.tmp 3) (.tmp 59) rfl .u32 B (hsAt T m) (hsAt T (m + 1)) 23 rfl rfl g0 (by rw [hsAt_len]; exact size_eight) (by rw [hsAt_len, hsAt_len]) ?_)
            have hmn := hm.out
            have ha := HA.out
            refine ⟨⟨m + 1, val_int (by omega), ⟨by omega⟩, ⟨Blk.row (old := hsAt T m) g0⟩, ⟨below_setRow gB (Nat.le_refl _) _⟩⟩, by simp [intOf]; omega⟩
      · have hmn : m = n := by have := hm.out; omega
        subst hmn
        have p1 : decide (((64 * m : Nat) : Int) < (u.size : Int)) = false := decide_eq_false (by have := USZ.out; omega)
        obtain ⟨a, ha⟩ : ∃ a, a = 64 * m := ⟨_, rfl⟩
        rw [← ha] at p1 ⊢
        have han2 : ¬ a < u.size := by have := USZ.out; omega
        have CO := Lib.hid fun W (g : Glob W) => of_c s (by have := Hs.out; omega) W g
        obtain ⟨d, hd⟩ : ∃ d, d = strOfNums (ofB (bytesOf s)) := ⟨_, rfl⟩
        rw [← hd] at CO
        obtain ⟨H, hH⟩ : ∃ H, H = hsAt T m := ⟨_, rfl⟩
        have hHl : H.length = 8 := by rw [hH]; exact hsAt_len T m
        have hHM : ∀ x ∈ H, x < M := by rw [hH]; exact hsAt_lt T m
        have hof : ofB (bytesOf s) = outB H := by rw [ofB, ← HT.out, ← HN.out, hH]
        have dsz : d.size = 32 := by rw [hd, hof, str_size, outB_len, hHl]
        have hdb : ∀ i, bt d i = rd (outB H) i := by intro i; rw [hd, hof, bt_str (R_outB H)]
        have CX := Lib.hid fun W => hex_c d (by rw [dsz]; decide) W
        obtain ⟨x, hx⟩ : ∃ x, x = strOfNums (hexB (bytesOf d)) := ⟨_, rfl⟩
        rw [← hx] at CX
        have xsz : x.size = 64 := by rw [hx, str_size, hexB_len, len_bytesOf, dsz]
        rw [← hH] at kb
        have HHL := Lib.hid hHl
        have HHM := Lib.hid hHM
        have HDB := Lib.hid hdb
        have XSZ := Lib.hid xsz
        have DSZ := Lib.hid dsz
        clear ha hlt hm hd hH hHl hHM hof hdb hx xsz
        go_wp2_with fail
        refine (CO.out _ (HG.out.below (by rw [← HB.out]; exact kB.out))).mono ?_
        rintro e w2 ⟨rfl, hb2⟩
        have k0 := kb.out.below hb2
        have kB2 := kB.out.trans (hb2.mono (by rw [HB.out]; exact kB.out.size))
        clear kb kB hb2 CO
        go_wp2_with fail
        go_loopw [9] (fun v9 w' => ∃ i, v9 = .int .i64 (i : Nat) ∧ Aside0 (i ≤ 32) ∧ Aside0 (Blk .u32 w' B 23 H) ∧ Aside0 (Below B w w')) (fun v9 _ => 32 - (intOf v9).toNat)
        case atStart => exact ⟨0, rfl, ⟨by omega⟩, ⟨k0⟩, ⟨kB2⟩⟩
        case round =>
          clear k0 kB2
          obtain ⟨i, rfl, hi, k0, kB⟩ := hrel
          by_cases hl2 : i < 32
          · have p2 : decide ((i : Int) < 32) = true := decide_eq_true (by omega)
            have p3 : (i : Int) < 32 := by omega
            obtain ⟨q, hq⟩ : ∃ q, q = i / 4 := ⟨_, rfl⟩
            obtain ⟨y, hy⟩ : ∃ y, y = H.getD q 0 := ⟨_, rfl⟩
            have hyM : y < 4294967296 := by rw [hy]; exact getD_lt HHM.out (by decide) q
            have hdx := HDB.out (i : Int)
            rw [rd_outB H i (by rw [HHL.out]; omega), ← hq, ← hy] at hdx
            obtain ⟨z, hz⟩ : ∃ z, z = bt d (i : Int) := ⟨_, rfl⟩
            have hidx := fun W => run_index_str (P := Tryd.prog) W Tryd.underlying9 d .i64 (i : Int) (by omega) (by rw [DSZ.out]; exact p3)
            rw [← hz] at hidx hdx
            have c1 := k0.out.cell q (by rw [HHL.out]; omega)
            rw [← hy] at c1
            have q1 : (i : Int) / 4 = (q : Int) := by omega
            have q2 : q < 8 := by omega
            have q3 : (q : Int) < 8 := by omega
            have q4 : IntKind.i64.wrap (q : Int) = (q : Int) := by rw [IntKind.wrap_i64]; omega
            have hr : i % 4 = 0 ∨ i % 4 = 1 ∨ i % 4 = 2 ∨ i % 4 = 3 := by omega
            clear hz hy hq
            rcases hr with hr | hr | hr | hr
            · rw [hr] at hdx
              simp only [Nat.reduceMul, Nat.reduceSub, Nat.reducePow] at hdx
              have r1 : (i : Int).tmod 4 = 0 := by rw [Int.tmod_eq_emod_of_nonneg (by omega)]; omega
              have hsh : min (IntKind.u64.wrap (IntKind.i64.wrap (24 - IntKind.i64.wrap (8 * 0)))).toNat 32 = 24 := by decide +kernel
              have ht : (z != IntKind.u8.wrap ((y : Int) / 2 ^ min (IntKind.u64.wrap (IntKind.i64.wrap (24 - IntKind.i64.wrap (8 * (i : Int).tmod 4)))).toNat 32)) = false := by
                rw [r1, hsh, hdx, IntKind.wrap_u8, bne_eq_false_iff_eq]; omega
              clear hsh r1
              have hze : z = (y : Int) / 16777216 := by rw [hdx]; omega
              clear hdx hr
              subst hze
              go_wp2
              refine wp_region_still_lit (by kernel_rfl) (by kernel_rfl) ?_
              repeat still_step
              refine wpStill_nil ?_
              change Exit.then _ _ Exit.normal _ wr.drew
              have k1 : Aside0 (Blk .u32 wr.drew B 23 H) := ⟨k0.out⟩
              have kB1 : Aside0 (Below B w wr.drew) := ⟨kB.out.drew⟩
              clear c1 k0 kB
              generalize wr.drew = w5 at k1 kB1 ⊢
              go_wp2
              exact ⟨⟨i + 1, by simp, ⟨hl2⟩, k1, kB1⟩, by simp [intOf]; omega⟩
            · rw [hr] at hdx
              simp only [Nat.reduceMul, Nat.reduceSub, Nat.reducePow] at hdx
              have r1 : (i : Int).tmod 4 = 1 := by rw [Int.tmod_eq_emod_of_nonneg (by omega)]; omega
              have hsh : min (IntKind.u64.wrap (IntKind.i64.wrap (24 - IntKind.i64.wrap (8 * 1)))).toNat 32 = 16 := by decide +kernel
              have ht : (z != IntKind.u8.wrap ((y : Int) / 2 ^ min (IntKind.u64.wrap (IntKind.i64.wrap (24 - IntKind.i64.wrap (8 * (i : Int).tmod 4)))).toNat 32)) = false := by
                rw [r1, hsh, hdx, IntKind.wrap_u8, bne_eq_false_iff_eq]; omega
              clear hsh r1
              have hze : z = (y : Int) / 65536 % 256 := by rw [hdx]; omega
              clear hdx hr
              subst hze
              go_wp2
              refine wp_region_still_lit (by kernel_rfl) (by kernel_rfl) ?_
              repeat still_step
              refine wpStill_nil ?_
              change Exit.then _ _ Exit.normal _ wr.drew
              have k1 : Aside0 (Blk .u32 wr.drew B 23 H) := ⟨k0.out⟩
              have kB1 : Aside0 (Below B w wr.drew) := ⟨kB.out.drew⟩
              clear c1 k0 kB
              generalize wr.drew = w5 at k1 kB1 ⊢
              go_wp2
              exact ⟨⟨i + 1, by simp, ⟨hl2⟩, k1, kB1⟩, by simp [intOf]; omega⟩
            · rw [hr] at hdx
              simp only [Nat.reduceMul, Nat.reduceSub, Nat.reducePow] at hdx
              have r1 : (i : Int).tmod 4 = 2 := by rw [Int.tmod_eq_emod_of_nonneg (by omega)]; omega
              have hsh : min (IntKind.u64.wrap (IntKind.i64.wrap (24 - IntKind.i64.wrap (8 * 2)))).toNat 32 = 8 := by decide +kernel
              have ht : (z != IntKind.u8.wrap ((y : Int) / 2 ^ min (IntKind.u64.wrap (IntKind.i64.wrap (24 - IntKind.i64.wrap (8 * (i : Int).tmod 4)))).toNat 32)) = false := by
                rw [r1, hsh, hdx, IntKind.wrap_u8, bne_eq_false_iff_eq]; omega
              clear hsh r1
              have hze : z = (y : Int) / 256 % 256 := by rw [hdx]; omega
              clear hdx hr
              subst hze
              go_wp2
              refine wp_region_still_lit (by kernel_rfl) (by kernel_rfl) ?_
              repeat still_step
              refine wpStill_nil ?_
              change Exit.then _ _ Exit.normal _ wr.drew
              have k1 : Aside0 (Blk .u32 wr.drew B 23 H) := ⟨k0.out⟩
              have kB1 : Aside0 (Below B w wr.drew) := ⟨kB.out.drew⟩
              clear c1 k0 kB
              generalize wr.drew = w5 at k1 kB1 ⊢
              go_wp2
              exact ⟨⟨i + 1, by simp, ⟨hl2⟩, k1, kB1⟩, by simp [intOf]; omega⟩
            · rw [hr] at hdx
              simp only [Nat.reduceMul, Nat.reduceSub, Nat.reducePow, Nat.div_one] at hdx
              have r1 : (i : Int).tmod 4 = 3 := by rw [Int.tmod_eq_emod_of_nonneg (by omega)]; omega
              have hsh : min (IntKind.u64.wrap (IntKind.i64.wrap (24 - IntKind.i64.wrap (8 * 3)))).toNat 32 = 0 := by decide +kernel
              have ht : (z != IntKind.u8.wrap ((y : Int) / 2 ^ min (IntKind.u64.wrap (IntKind.i64.wrap (24 - IntKind.i64.wrap (8 * (i : Int).tmod 4)))).toNat 32)) = false := by
                rw [r1, hsh, hdx, IntKind.wrap_u8, bne_eq_false_iff_eq]; omega
              clear hsh r1
              have hze : z = (y : Int) % 256 := by rw [hdx]; omega
              clear hdx hr
              subst hze
              go_wp2
              refine wp_region_still_lit (by kernel_rfl) (by kernel_rfl) ?_
              repeat still_step
              refine wpStill_nil ?_
              change Exit.then _ _ Exit.normal _ wr.drew
              have k1 : Aside0 (Blk .u32 wr.drew B 23 H) := ⟨k0.out⟩
              have kB1 : Aside0 (Below B w wr.drew) := ⟨kB.out.drew⟩
              clear c1 k0 kB
              generalize wr.drew = w5 at k1 kB1 ⊢
              go_wp2
              exact ⟨⟨i + 1, by simp, ⟨hl2⟩, k1, kB1⟩, by simp [intOf]; omega⟩
          · have h32 : i = 32 := by have := hi.out; omega
            subst h32
            clear hi hl2
            have xs1 : (((x.size : Int) == 64)) = true := by rw [XSZ.out]; decide
            go_wp2_with fail
            refine (CX.out _).mono ?_
            rintro e w3 ⟨rfl, hb3⟩
            have kB3 := kB.out.trans (hb3.mono (by rw [HB.out]; exact kB.out.size))
            clear k0 kB hb3 CX
            go_wp2_with fail
            refine (WK.out _ (HG.out.below (by rw [← HB.out]; exact kB3))).mono ?_
            rintro e w4 ⟨rfl, hb4⟩
            have kB4 := kB3.trans (hb4.mono (by rw [HB.out]; exact kB3.size))
            go_wp2_with fail
            go_ret
            exact ⟨rfl, by rw [← HB.out]; exact kB4⟩
  · have p0 : decide ((400 : Int) < (s.size : Int)) = true := decide_eq_true (by omega)
    clear hs hs0
    go_enter Tryd.func4, Tryd.ntmps4
    go_wp2_with fail
    refine (WK.out _ HG.out).mono ?_
    rintro e w1 ⟨rfl, hB1⟩
    go_wp2_with fail
    go_ret
    exact ⟨rfl, hB1⟩
end Go.Proofs.YtbphehijikdkjaaDoor.DgsU
