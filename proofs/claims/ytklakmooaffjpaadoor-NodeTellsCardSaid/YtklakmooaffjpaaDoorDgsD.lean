/-
  The reference's Start and Constants, walked by hand: they are the tables.
-/
import Derived.Test.YtklakmooaffjpaaDoorDgsC
import Derived.Test.YtklakmooaffjpaaDoorPDgsx0
namespace Go.Proofs.YtklakmooaffjpaaDoor.DgsD
open Go.RowKit Go.Proofs.YtklakmooaffjpaaDoorW.PrintWords Go.Proofs.YtklakmooaffjpaaDoorW.PrintMore Go.Proofs.YtklakmooaffjpaaDoor.Cm Go.Proofs.YtklakmooaffjpaaDoor.Str Go.Proofs.YtklakmooaffjpaaDoor.DgsP Go.Proofs.YtklakmooaffjpaaDoor.DgsH Go.Proofs.YtklakmooaffjpaaDoor.DgsS Go.Proofs.YtklakmooaffjpaaDoor.DgsB Go.Proofs.YtklakmooaffjpaaDoor.DgsC Go.Proofs.YtklakmooaffjpaaDoor.PDgs
set_option linter.unusedVariables false
set_option maxRecDepth 100000 in
theorem sq_all : ∀ i : Fin 8, sqN (PR.getD i.val 0) 37 0 = beg.getD i.val 0 := by decide +kernel
set_option maxRecDepth 100000 in
theorem cu_all : ∀ i : Fin 64, cuN (PR.getD i.val 0) 36 0 = kt.getD i.val 0 := by decide +kernel
/-- A table, of which the first i numbers are laid. -/
def part (l : List Nat) (i : Nat) : List Nat := l.take i ++ List.replicate (l.length - i) 0
theorem part_len (l : List Nat) (i : Nat) (h : i ≤ l.length) : (part l i).length = l.length := by simp [part]; omega
theorem part_zero (l : List Nat) : part l 0 = List.replicate l.length 0 := by simp [part]
theorem part_all (l : List Nat) : part l l.length = l := by simp [part]
theorem part_set (l : List Nat) (i : Nat) (h : i < l.length) : (part l i).set i (l.getD i 0) = part l (i + 1) := by
  unfold part
  rw [List.set_append_right _ _ (by simp; omega), List.length_take, Nat.min_eq_left (by omega), Nat.sub_self, show l.length - i = (l.length - (i + 1)) + 1 by omega, List.replicate_succ, List.set_cons_zero, List.take_succ_eq_append_getElem h, List.append_assoc]
  simp [List.getD_eq_getElem?_getD, h]
set_option maxRecDepth 100000 in
set_option maxHeartbeats 4000000 in
theorem start_c (w : World) : Calls Tryd.prog 49 #[] w fun e w' => e = .returned (.agg (vals .u32 beg)) ∧ Below w.heap.size w w' := by
  obtain ⟨kp, hkp⟩ := primes_8
  have CP := Lib.hid fun W => r4primes.calls kp 8 _ W hkp
  have CS := Lib.hid fun (i : Fin 8) W => r4square.same 38 (PR.getD i.val 0 : Nat) _ W (square_eq _)
  clear hkp
  obtain ⟨B, hB⟩ : ∃ B, B = w.heap.size := ⟨_, rfl⟩
  go_enter Tryd.func49, Tryd.ntmps49
  go_wp2_with fail
  generalize hW : (World.alloc (World.alloc w _) _) = W
  have hb0 : Blk .u32 W B 60 (List.replicate 8 0) := by rw [← hW, hB]; exact bA (blk_new w _) _
  have hb1 : Blk .u32 W (B + 1) 60 (part beg 0) := by rw [← hW, hB, ← World.size_alloc w]; exact blk_new _ _
  have hbel : Below B w W := by rw [← hW, hB]; exact wA (wA (Below.refl _ _) _) _
  have hsz : B + 2 ≤ W.heap.size := by rw [← hW, hB]; simp
  rw [← hB]
  have HB := Lib.hid hB
  clear hB hW
  refine (CP.out W).mono ?_
  rintro e w1 ⟨v, rfl, hR, hB1⟩
  replace hb0 := hb0.below hB1
  replace hb1 := hb1.below hB1
  replace hbel := hbel.trans (hB1.mono (by omega))
  obtain ⟨A, c, rfl⟩ := Kd.R_slice hR
  have HR := Lib.hid hR
  clear hR hB1 CP
  have hnl : (ns (PR.take 8)).length = 8 := by decide +kernel
  rw [hnl] at HR ⊢
  clear hnl
  go_wp2_with fail
  go_loopw [3] (fun v3 w' => ∃ i, i ≤ 8 ∧ v3 = .int .i64 (i : Nat) ∧ A0_ (Blk .u32 w' B 60 (List.replicate 8 0)) ∧ A0_ (Blk .u32 w' (B + 1) 60 (part beg i)) ∧ A0_ (Kd.R (Kd.int .u64) 83 w' W.heap.size (fun _ => True) (.slice A 8 c) (ns (PR.take 8))) ∧ A0_ (Below B w w')) (fun v3 _ => (8 - intOf v3).toNat)
  case atStart => exact ⟨0, by omega, rfl, ⟨hb0⟩, ⟨hb1⟩, ⟨HR.out⟩, ⟨hbel⟩⟩
  case round =>
    clear hb0 hb1 HR hbel
    obtain ⟨i, hi, rfl, h0, h1, hR, hB⟩ := hrel
    by_cases hlt : i < 8
    · have p1 : decide ((i : Int) < 8) = true := decide_eq_true (by omega)
      have p2 : (i : Int) < 8 := by omega
      have p0 : (0 : Int) ≤ (i : Int) := by omega
      have hnl : (ns (PR.take 8)).length = 8 := by decide +kernel
      obtain ⟨ad, he, hx⟩ := Kd.at_int (Kd.R_reads' hR.out).2.2 (i : Int) p0 (by rw [hnl]; exact p2)
      clear hnl
      cases he
      have f1 := h1.out.free i
      have c1 := h1.out.cell i (by rw [part_len _ _ (by show i ≤ 8; exact hi)]; exact hlt)
      obtain ⟨x, hxe⟩ : ∃ x, x = PR.getD i 0 := ⟨_, rfl⟩
      have hrd : rd (ns (PR.take 8)) (i : Int) = (x : Int) := by rw [rd_ns _ _ (by simp [PR]; omega), hxe, List.getD_eq_getElem?_getD, List.getD_eq_getElem?_getD, List.getElem?_take_of_lt hlt]
      rw [hrd] at hx
      have CQ := Lib.hid (CS.out ⟨i, by omega⟩)
      rw [sq_all ⟨i, by omega⟩] at CQ
      simp only [← hxe] at CQ
      obtain ⟨y, hye⟩ : ∃ y, y = beg.getD i 0 := ⟨_, rfl⟩
      rw [← hye] at CQ
      have HY := Lib.hid hye
      clear hxe hrd hye
      obtain ⟨z, hze⟩ : ∃ z, z = (part beg i).getD i 0 := ⟨_, rfl⟩
      rw [← hze] at c1
      clear hze
      simp only [Int.toNat_natCast] at hx
      have hBs : B ≠ B + 1 := by omega
      go_wp2_with (refine (CQ.out _).mono ?_; rintro e w5 ⟨rfl, rfl⟩)
      have g1 := h1.out.put i y (by rw [part_len _ _ (by show i ≤ 8; exact hi)]; exact hlt)
      rw [HY.out, part_set beg i hlt, ← HY.out] at g1
      refine ⟨⟨i + 1, hlt, by simp, ⟨h0.out.far _ _ hBs⟩, ⟨g1⟩, ⟨Kd.R_set hR.out h1.out (by decide) _ _⟩, ⟨hB.out.setCell (by show B ≤ B + 1; omega) _⟩⟩, by simp [intOf]; omega⟩
    · have h8 : i = 8 := by omega
      subst h8
      clear hi hlt
      rw [show part beg 8 = beg from part_all beg] at h1
      obtain ⟨l, hle⟩ : ∃ l, l = beg := ⟨_, rfl⟩
      have hll : l.length = 8 := by rw [hle]; rfl
      rw [← hle] at h1
      have Hll := Lib.hid hll
      have Hle := Lib.hid hle
      clear hll hle
      go_wp2_with (first | ((with_reducible refine gD (N := 16) rfl ?_); refine wpList_load_blk rfl 60 (.tmp 1) rfl .u32 (B + 1) l 60 _ rfl h1.out Tryd.underlying60 rfl (by rw [Hll.out]; exact size_eight) ?_) | ((with_reducible refine gS (p := 0) rfl ?_); refine wpList_store_blk rfl 60 (.tmp 0) (.tmp 16) rfl .u32 B (List.replicate 8 0) l 60 rfl rfl h0.out (by rw [Hll.out]; exact size_eight) (by rw [Hll.out]; rfl) ?_))
      have g1 := h0.out.row (l := l)
      have hload := run_loadVar_row (P := Tryd.prog) _ B 60 60 (vals .u32 l) (0, 0) _ g1 Tryd.underlying60 rfl (by rw [vals_size, Hll.out]; exact size_eight)
      have gB := below_setRow hB.out (Nat.le_refl _) (vals .u32 l)
      refine bodyPost_ret (v := .agg (vals .u32 l)) ?_ rfl ⟨by rw [Hle.out], by rw [← HB.out]; exact gB⟩
      simp [results, Tryd.results49, Act.put, asAddr, hload]
set_option maxRecDepth 100000 in
set_option maxHeartbeats 4000000 in
theorem consts_c (w : World) : Calls Tryd.prog 50 #[] w fun e w' => e = .returned (.agg (vals .u32 kt)) ∧ Below w.heap.size w w' := by
  obtain ⟨kp, hkp⟩ := primes_64
  have CP := Lib.hid fun W => r4primes.calls kp 64 _ W hkp
  have CS := Lib.hid fun (i : Fin 64) W => r4cube.same 37 (PR.getD i.val 0 : Nat) _ W (cube_eq _)
  clear hkp
  obtain ⟨B, hB⟩ : ∃ B, B = w.heap.size := ⟨_, rfl⟩
  go_enter Tryd.func50, Tryd.ntmps50
  go_wp2_with fail
  generalize hW : (World.alloc (World.alloc w _) _) = W
  have hb0 : Blk .u32 W B 81 (List.replicate 64 0) := by rw [← hW, hB]; exact bA (blk_new w _) _
  have hb1 : Blk .u32 W (B + 1) 81 (part kt 0) := by rw [← hW, hB, ← World.size_alloc w]; exact blk_new _ _
  have hbel : Below B w W := by rw [← hW, hB]; exact wA (wA (Below.refl _ _) _) _
  have hsz : B + 2 ≤ W.heap.size := by rw [← hW, hB]; simp
  rw [← hB]
  have HB := Lib.hid hB
  clear hB hW
  refine (CP.out W).mono ?_
  rintro e w1 ⟨v, rfl, hR, hB1⟩
  replace hb0 := hb0.below hB1
  replace hb1 := hb1.below hB1
  replace hbel := hbel.trans (hB1.mono (by omega))
  obtain ⟨A, c, rfl⟩ := Kd.R_slice hR
  have HR := Lib.hid hR
  clear hR hB1 CP
  have hnl : (ns PR).length = 64 := by decide +kernel
  rw [hnl] at HR ⊢
  clear hnl
  go_wp2_with fail
  go_loopw [3] (fun v3 w' => ∃ i, i ≤ 64 ∧ v3 = .int .i64 (i : Nat) ∧ A0_ (Blk .u32 w' B 81 (List.replicate 64 0)) ∧ A0_ (Blk .u32 w' (B + 1) 81 (part kt i)) ∧ A0_ (Kd.R (Kd.int .u64) 83 w' W.heap.size (fun _ => True) (.slice A 64 c) (ns PR)) ∧ A0_ (Below B w w')) (fun v3 _ => (64 - intOf v3).toNat)
  case atStart => exact ⟨0, by omega, rfl, ⟨hb0⟩, ⟨hb1⟩, ⟨HR.out⟩, ⟨hbel⟩⟩
  case round =>
    clear hb0 hb1 HR hbel
    obtain ⟨i, hi, rfl, h0, h1, hR, hB⟩ := hrel
    by_cases hlt : i < 64
    · have p1 : decide ((i : Int) < 64) = true := decide_eq_true (by omega)
      have p2 : (i : Int) < 64 := by omega
      have p0 : (0 : Int) ≤ (i : Int) := by omega
      have hnl : (ns PR).length = 64 := by decide +kernel
      obtain ⟨ad, he, hx⟩ := Kd.at_int (Kd.R_reads' hR.out).2.2 (i : Int) p0 (by rw [hnl]; exact p2)
      clear hnl
      cases he
      have f1 := h1.out.free i
      have c1 := h1.out.cell i (by rw [part_len _ _ (by show i ≤ 64; exact hi)]; exact hlt)
      obtain ⟨x, hxe⟩ : ∃ x, x = PR.getD i 0 := ⟨_, rfl⟩
      have hrd : rd (ns PR) (i : Int) = (x : Int) := by rw [rd_ns _ _ (by simp [PR]; omega), hxe]
      rw [hrd] at hx
      have CQ := Lib.hid (CS.out ⟨i, by omega⟩)
      rw [cu_all ⟨i, by omega⟩] at CQ
      simp only [← hxe] at CQ
      obtain ⟨y, hye⟩ : ∃ y, y = kt.getD i 0 := ⟨_, rfl⟩
      rw [← hye] at CQ
      have HY := Lib.hid hye
      clear hxe hrd hye
      obtain ⟨z, hze⟩ : ∃ z, z = (part kt i).getD i 0 := ⟨_, rfl⟩
      rw [← hze] at c1
      clear hze
      simp only [Int.toNat_natCast] at hx
      have hBs : B ≠ B + 1 := by omega
      go_wp2_with (refine (CQ.out _).mono ?_; rintro e w5 ⟨rfl, rfl⟩)
      have g1 := h1.out.put i y (by rw [part_len _ _ (by show i ≤ 64; exact hi)]; exact hlt)
      rw [HY.out, part_set kt i hlt, ← HY.out] at g1
      refine ⟨⟨i + 1, hlt, by simp, ⟨h0.out.far _ _ hBs⟩, ⟨g1⟩, ⟨Kd.R_set hR.out h1.out (by decide) _ _⟩, ⟨hB.out.setCell (by show B ≤ B + 1; omega) _⟩⟩, by simp [intOf]; omega⟩
    · have h64 : i = 64 := by omega
      subst h64
      clear hi hlt
      rw [show part kt 64 = kt from part_all kt] at h1
      obtain ⟨l, hle⟩ : ∃ l, l = kt := ⟨_, rfl⟩
      have hll : l.length = 64 := by rw [hle]; rfl
      rw [← hle] at h1
      have Hll := Lib.hid hll
      have Hle := Lib.hid hle
      clear hll hle
      go_wp2_with (first | ((with_reducible refine gD (N := 16) rfl ?_); refine wpList_load_blk rfl 81 (.tmp 1) rfl .u32 (B + 1) l 81 _ rfl h1.out Tryd.underlying81 rfl (by rw [Hll.out]; exact size_words) ?_) | ((with_reducible refine gS (p := 0) rfl ?_); refine wpList_store_blk rfl 81 (.tmp 0) (.tmp 16) rfl .u32 B (List.replicate 64 0) l 81 rfl rfl h0.out (by rw [Hll.out]; exact size_words) (by rw [Hll.out]; rfl) ?_))
      have g1 := h0.out.row (l := l)
      have hload := run_loadVar_row (P := Tryd.prog) _ B 81 81 (vals .u32 l) (0, 0) _ g1 Tryd.underlying81 rfl (by rw [vals_size, Hll.out]; exact size_words)
      have gB := below_setRow hB.out (Nat.le_refl _) (vals .u32 l)
      refine bodyPost_ret (v := .agg (vals .u32 l)) ?_ rfl ⟨by rw [Hle.out], by rw [← HB.out]; exact gB⟩
      simp [results, Tryd.results50, Act.put, asAddr, hload]
end Go.Proofs.YtklakmooaffjpaaDoor.DgsD
