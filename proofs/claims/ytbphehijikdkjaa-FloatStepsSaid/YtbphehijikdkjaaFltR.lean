/-
  The reference's Value, walked by hand.
-/
import Derived.Test.YtbphehijikdkjaaFltV
namespace Go.Proofs.Ytbphehijikdkjaa.FltR
open Go.RowKit Go.Proofs.Ytbphehijikdkjaa.FltH Go.Proofs.Ytbphehijikdkjaa.FltK Go.Proofs.Ytbphehijikdkjaa.FltV Go.Proofs.YtbphehijikdkjaaW.PrintWords Go.Proofs.YtbphehijikdkjaaW.PrintMore Go.Proofs.Ytbphehijikdkjaa.Str Go.Proofs.Ytbphehijikdkjaa.Cm
set_option linter.unusedVariables false
theorem one_un (v : Nat) (h : v < 18446744073709551616) (he : ordB (unB v) = v) : oneB (unB v) = unB v := by
  have hl := oneB_lt (unB v) (unB_lt v h)
  unfold ordB at he
  have hu : unB v = if 9223372036854775808 ≤ v then v - 9223372036854775808 else 18446744073709551615 - v := rfl
  generalize oneB (unB v) = o at he hl ⊢
  rw [hu]
  split at he <;> split <;> omega
theorem run_store_float {P : Program} {w : World} {a : Addr} {m : Mode} (k : FloatKind) (b : Nat) : (store a (.float k b) m).run P w = stored P w a (.float k b) m := run_store P w a _ m rfl
attribute [local go_sem] run_store_float
set_option maxHeartbeats 1000000 in
theorem rvalue_c (s : ByteArray) (w : World) : Calls Try.prog 10 #[.string s] w fun e w' => e = .returned (.agg #[.float .f64 (valS s).1, .bool (valS s).2]) ∧ Below w.heap.size w w' := by
  by_cases hs : s.size = 8
  · have hs' : ((s.size : Int) != 8) = false := by rw [bne_eq_false_iff_eq]; omega
    have hfr := fun (n : Nat) W => from_run n W
    obtain ⟨v, hv⟩ : ∃ v, v = num s := ⟨_, rfl⟩
    have hvl : v < 18446744073709551616 := by rw [hv]; exact num_lt s hs
    obtain ⟨u, hu⟩ : ∃ u, u = unB v := ⟨_, rfl⟩
    have hul : u < 18446744073709551616 := by rw [hu]; exact unB_lt v hvl
    have hval : valS s = if ordB u = v then (u, true) else (0, false) := by rw [hu, hv]; unfold valS; rw [if_pos hs]
    have hk := key_eq s hs (ordB u) (ordB_lt u hul)
    rw [← hv] at hk
    obtain ⟨t, ht⟩ : ∃ t, t = strOfNums (be8 (ordB u)) := ⟨_, rfl⟩
    have CK := Lib.hid fun W => rkey_c u hul W
    rw [← ht] at CK hk
    have hfin : Dig.de ((bytesOf s).take 8) = v := by rw [List.take_of_length_le (by rw [len_bytesOf, hs]; omega), hv]; rfl
    have HS := Lib.hid hs
    have HV := Lib.hid hv
    have HU := Lib.hid hu
    have HVAL := Lib.hid hval
    have HK := Lib.hid hk
    have HFIN := Lib.hid hfin
    clear hs hv hu hval hk ht hfin
    go_enter Try.func10, Try.ntmps10
    go_wp2
    go_loop [3, 4] (fun v3 v4 => ∃ (i : Nat), i ≤ 8 ∧ v4 = .int .i64 i ∧ v3 = .int .u64 (Dig.de ((bytesOf s).take i) : Nat)) (fun _ v4 => 8 - (intOf v4).toNat)
    case atStart => exact ⟨0, by omega, rfl, rfl⟩
    case round =>
      obtain ⟨i, hi, rfl, rfl⟩ := hrel
      by_cases hlt : i < 8
      · have hsz : i < s.size := by rw [HS.out]; exact hlt
        have hst := take_de s i hsz
        have hdl := take_lt s i hlt
        obtain ⟨d, hd⟩ : ∃ d, d = Dig.de ((bytesOf s).take i) := ⟨_, rfl⟩
        rw [← hd] at hst hdl ⊢
        have hor := or_byte d s[i].toNat hdl s[i].toNat_lt
        have hB2 : (s[i].toNat : Int) % 18446744073709551616 = s[i].toNat := by have := s[i].toNat_lt; omega
        have Hst := Lib.hid hst
        clear hd hst
        go_wp2
        go_round
        case rel => exact ⟨i + 1, by omega, by go_num, val_int (by rw [Hst.out]; simp)⟩
        case measure => simp [intOf]; omega
      · have h8 : Dig.de ((bytesOf s).take i) = v := by rw [show i = 8 by omega]; exact HFIN.out
        rw [h8]
        clear h8
        by_cases hge : 9223372036854775808 ≤ v
        · have hi0 := bits_inv v hvl
          have h3 : ((v : Int) / 9223372036854775808 == 1) = true := by rw [beq_iff_eq]; omega
          have h4 := clear_sign v hge hvl
          have h5 : v - 9223372036854775808 = u := by rw [HU.out, unB, if_pos hge]
          rw [h5] at h4
          clear h5
          by_cases he : ordB u = v
          · have h6 : (t.toList == s.toList) = true := by rw [HK.out.2 he]; simp
            have h7 : valS s = (u, true) := by rw [HVAL.out, if_pos he]
            have h8 : oneB u = u := by have := one_un v hvl (by rw [← HU.out]; exact he); rw [← HU.out] at this; exact this
            have CO := Lib.hid fun W => rbits_c u W
            rw [h8] at CO
            have h9 : ((u : Int) == (u : Int)) = true := by simp
            have H7 := Lib.hid h7
            clear h7 he h8
            go_wp2_with (first | (go_at_call 12; refine (CK.out _).mono ?_; rintro e w1 ⟨rfl, hb1⟩; have b1 := blk_below (blk_new w _) hb1; have c0 := blk_cell b1 0; have c1 := blk_cell b1 1; have f0 := blk_frozen b1 0; have f1 := blk_frozen b1 1; simp only [List.getElem?_toArray, List.getElem?_cons_zero, List.getElem?_cons_succ] at c0 c1; clear b1) | (go_at_call 21; refine (CO.out _).mono ?_; rintro e w2 ⟨rfl, hw2⟩; subst hw2))
            exact bodyPost_ret (v := .agg #[.float .f64 u, .bool true]) (by simp [results, Try.results10, go_sem, c0, c1]) rfl ⟨by rw [H7.out], ((((Below.refl _ _).alloc (Nat.le_refl _) _).trans (hb1.mono (by simp))).setCell (Nat.le_refl _) _).setCell (Nat.le_refl _) _⟩
          · have h6 : (t.toList == s.toList) = false := by rw [beq_eq_false_iff_ne]; exact fun c => he (HK.out.1 ((toList_inj t s).1 c))
            have h7 : valS s = (0, false) := by rw [HVAL.out, if_neg he]
            have H7 := Lib.hid h7
            clear h7 he
            go_wp2_with (first | (go_at_call 12; refine (CK.out _).mono ?_; rintro e w1 ⟨rfl, hb1⟩; have b1 := blk_below (blk_new w _) hb1; have c0 := blk_cell b1 0; have c1 := blk_cell b1 1; have f0 := blk_frozen b1 0; have f1 := blk_frozen b1 1; simp only [List.getElem?_toArray, List.getElem?_cons_zero, List.getElem?_cons_succ] at c0 c1; clear b1) | (go_at_call 21; refine (CO.out _).mono ?_; rintro e w2 ⟨rfl, hw2⟩; subst hw2))
            exact bodyPost_ret (v := .agg #[.float .f64 0, .bool false]) (by simp [results, Try.results10, go_sem, c0, c1]) rfl ⟨by rw [H7.out], ((((Below.refl _ _).alloc (Nat.le_refl _) _).trans (hb1.mono (by simp))).setCell (Nat.le_refl _) _).setCell (Nat.le_refl _) _⟩
        · skip
          have h3 : ((v : Int) / 9223372036854775808 == 1) = false := by rw [beq_eq_false_iff_ne]; omega
          have h4 := bits_inv v hvl
          have h5 : 18446744073709551615 - v = u := by rw [HU.out, unB, if_neg hge]
          rw [h5] at h4
          clear h5
          by_cases he : ordB u = v
          · have h6 : (t.toList == s.toList) = true := by rw [HK.out.2 he]; simp
            have h7 : valS s = (u, true) := by rw [HVAL.out, if_pos he]
            have h8 : oneB u = u := by have := one_un v hvl (by rw [← HU.out]; exact he); rw [← HU.out] at this; exact this
            have CO := Lib.hid fun W => rbits_c u W
            rw [h8] at CO
            have h9 : ((u : Int) == (u : Int)) = true := by simp
            have H7 := Lib.hid h7
            clear h7 he h8
            go_wp2_with (first | (go_at_call 12; refine (CK.out _).mono ?_; rintro e w1 ⟨rfl, hb1⟩; have b1 := blk_below (blk_new w _) hb1; have c0 := blk_cell b1 0; have c1 := blk_cell b1 1; have f0 := blk_frozen b1 0; have f1 := blk_frozen b1 1; simp only [List.getElem?_toArray, List.getElem?_cons_zero, List.getElem?_cons_succ] at c0 c1; clear b1) | (go_at_call 21; refine (CO.out _).mono ?_; rintro e w2 ⟨rfl, hw2⟩; subst hw2))
            exact bodyPost_ret (v := .agg #[.float .f64 u, .bool true]) (by simp [results, Try.results10, go_sem, c0, c1]) rfl ⟨by rw [H7.out], ((((Below.refl _ _).alloc (Nat.le_refl _) _).trans (hb1.mono (by simp))).setCell (Nat.le_refl _) _).setCell (Nat.le_refl _) _⟩
          · have h6 : (t.toList == s.toList) = false := by rw [beq_eq_false_iff_ne]; exact fun c => he (HK.out.1 ((toList_inj t s).1 c))
            have h7 : valS s = (0, false) := by rw [HVAL.out, if_neg he]
            have H7 := Lib.hid h7
            clear h7 he
            go_wp2_with (first | (go_at_call 12; refine (CK.out _).mono ?_; rintro e w1 ⟨rfl, hb1⟩; have b1 := blk_below (blk_new w _) hb1; have c0 := blk_cell b1 0; have c1 := blk_cell b1 1; have f0 := blk_frozen b1 0; have f1 := blk_frozen b1 1; simp only [List.getElem?_toArray, List.getElem?_cons_zero, List.getElem?_cons_succ] at c0 c1; clear b1) | (go_at_call 21; refine (CO.out _).mono ?_; rintro e w2 ⟨rfl, hw2⟩; subst hw2))
            exact bodyPost_ret (v := .agg #[.float .f64 0, .bool false]) (by simp [results, Try.results10, go_sem, c0, c1]) rfl ⟨by rw [H7.out], ((((Below.refl _ _).alloc (Nat.le_refl _) _).trans (hb1.mono (by simp))).setCell (Nat.le_refl _) _).setCell (Nat.le_refl _) _⟩
  · have hs' : ((s.size : Int) != 8) = true := by rw [bne_iff_ne]; omega
    have h7 : valS s = (0, false) := by unfold valS; rw [if_neg hs]
    go_enter Try.func10, Try.ntmps10
    go_wp2
    exact bodyPost_ret (v := .agg #[.float .f64 0, .bool false]) (by simp [results, Try.results10, go_sem]) rfl ⟨by rw [h7], (Below.refl _ _).alloc (Nat.le_refl _) _⟩
end Go.Proofs.Ytbphehijikdkjaa.FltR
