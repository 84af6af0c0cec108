import Derived.Test.YtklakmooaffjpaaDoorSQ
import Derived.Test.YtklakmooaffjpaaDoorPDgsx0
section
-- Written by a program of this session for this seat. Not trusted: Lean checks it.
namespace Go.Proofs.YtklakmooaffjpaaDoor.PDgs
open Go.RowKit Go.Proofs.YtklakmooaffjpaaDoorW.PrintWords Go.Proofs.YtklakmooaffjpaaDoorW.PrintLast Go.Proofs.YtklakmooaffjpaaDoorW.PrintMore
attribute [local go_sem] max2_int min2_int max_two min_two max_three min_three max_four min_four   -- for this text's walks alone
set_option linter.unusedVariables false
set_option linter.unusedSimpArgs false
open Go.Proofs.YtklakmooaffjpaaDoor.HW

/-! ### digest_Pad: function 33 -/
def digest_Pad.l0 : Nat → List Int → Int → Int → Option (ByteArray)
 | 0, _, _, _ => none
 | k + 1, x4, x5, x24 => if x24 < 8 then (if 0 ≤ (wrap64 (8 * (wrap64 (7 - x24)))) then (if x4.length < 140737488355328 then (digest_Pad.l0 k (x4 ++ [(shr .u64 x5 (wrap64 (8 * (wrap64 (7 - x24))))) % 256]) x5 (wrap64 (x24 + 1))) else (none)) else (none)) else (some (strOfNums x4))
def digest_Pad.f (k : Nat) (a0 : Int) : Option (ByteArray) := if 0 ≤ (wrap64 (1 + (wrap64 (63 - (Int.tmod (wrap64 ((mx a0 0) + 8)) 64))))) then (if (wrap64 (1 + (wrap64 (63 - (Int.tmod (wrap64 ((mx a0 0) + 8)) 64))))) ≤ (wrap64 ((wrap64 (1 + (wrap64 (63 - (Int.tmod (wrap64 ((mx a0 0) + 8)) 64))))) + 8)) then (if (wrap64 ((wrap64 (1 + (wrap64 (63 - (Int.tmod (wrap64 ((mx a0 0) + 8)) 64))))) + 8)) ≤ 281474976710656 then ((some (List.replicate (wrap64 (1 + (wrap64 (63 - (Int.tmod (wrap64 ((mx a0 0) + 8)) 64)))) : Int).toNat 0 : List Int)).bind fun y101 => (if 0 < (y101.length : Int) then (digest_Pad.l0 k (y101.set (0 : Int).toNat 128) (IntKind.u64.wrap ((IntKind.u64.wrap (mx a0 0)) * 8)) 0) else (none))) else (none)) else (none)) else (none)
set_option maxHeartbeats 8000000 in
set_option maxRecDepth 100000 in
theorem digest_Pad.calls (k : Nat) (a0 : Int) (r : ByteArray) (w : World) (h : digest_Pad.f k a0 = some r) :
  Calls Tryd.prog 33 #[.int .i64 a0] w fun e w' => e = .returned (.string r) ∧ Below w.heap.size w w' := by
 have HB := A0_.mk (Below.refl w.heap.size w)
 have H : (if 0 ≤ (wrap64 (1 + (wrap64 (63 - (Int.tmod (wrap64 ((mx a0 0) + 8)) 64))))) then (if (wrap64 (1 + (wrap64 (63 - (Int.tmod (wrap64 ((mx a0 0) + 8)) 64))))) ≤ (wrap64 ((wrap64 (1 + (wrap64 (63 - (Int.tmod (wrap64 ((mx a0 0) + 8)) 64))))) + 8)) then (if (wrap64 ((wrap64 (1 + (wrap64 (63 - (Int.tmod (wrap64 ((mx a0 0) + 8)) 64))))) + 8)) ≤ 281474976710656 then ((some (List.replicate (wrap64 (1 + (wrap64 (63 - (Int.tmod (wrap64 ((mx a0 0) + 8)) 64)))) : Int).toNat 0 : List Int)).bind fun y101 => (if 0 < (y101.length : Int) then (digest_Pad.l0 k (y101.set (0 : Int).toNat 128) (IntKind.u64.wrap ((IntKind.u64.wrap (mx a0 0)) * 8)) 0) else (none))) else (none)) else (none)) else (none)) = some r := h
 clear h
 obtain ⟨ji2, hji2⟩ : ∃ j_ : Int, (mx a0 0) = j_ := ⟨_, rfl⟩
 replace H : (if 0 ≤ (wrap64 (1 + (wrap64 (63 - (Int.tmod (wrap64 ((ji2) + 8)) 64))))) then (if (wrap64 (1 + (wrap64 (63 - (Int.tmod (wrap64 ((ji2) + 8)) 64))))) ≤ (wrap64 ((wrap64 (1 + (wrap64 (63 - (Int.tmod (wrap64 ((ji2) + 8)) 64))))) + 8)) then (if (wrap64 ((wrap64 (1 + (wrap64 (63 - (Int.tmod (wrap64 ((ji2) + 8)) 64))))) + 8)) ≤ 281474976710656 then ((some (List.replicate (wrap64 (1 + (wrap64 (63 - (Int.tmod (wrap64 ((ji2) + 8)) 64)))) : Int).toNat 0 : List Int)).bind fun y101 => (if 0 < (y101.length : Int) then (digest_Pad.l0 k (y101.set (0 : Int).toNat 128) (IntKind.u64.wrap ((IntKind.u64.wrap (ji2)) * 8)) 0) else (none))) else (none)) else (none)) else (none)) = some r := by first | (rw [hji2] at H; exact H) | (simp only [hji2] at H ⊢; exact H)
 (try (have hji2l : 0 ≤ ji2 := by (rw [← hji2]; unfold mx; (repeat' split) <;> omega)))
 (try (have hji2m : 0 ≤ ji2 := by omega))
 have hji2_ : (if a0 < 0 then 0 else a0) = ji2 := hji2
 obtain ⟨ji3, hji3⟩ : ∃ j_ : Int, (wrap64 (1 + (wrap64 (63 - (Int.tmod (wrap64 ((ji2) + 8)) 64))))) = j_ := ⟨_, rfl⟩
 replace H : (if 0 ≤ (ji3) then (if (ji3) ≤ (wrap64 ((ji3) + 8)) then (if (wrap64 ((ji3) + 8)) ≤ 281474976710656 then ((some (List.replicate (ji3 : Int).toNat 0 : List Int)).bind fun y101 => (if 0 < (y101.length : Int) then (digest_Pad.l0 k (y101.set (0 : Int).toNat 128) (IntKind.u64.wrap ((IntKind.u64.wrap (ji2)) * 8)) 0) else (none))) else (none)) else (none)) else (none)) = some r := by first | (rw [hji3] at H; exact H) | (simp only [hji3] at H ⊢; exact H)
 have hji3w : (IntKind.i64.wrap (1 + (wrap64 (63 - (Int.tmod (wrap64 ((ji2) + 8)) 64))))) = ji3 := (i64_w _).trans hji3
 by_cases c4 : 0 ≤ (ji3)
 rotate_left
 ·rw [if_neg c4] at H
  exact absurd H (by simp)
 rw [if_pos c4] at H
 have c4b0 := eq_true c4
 have c4b1 : decide (0 ≤ (ji3)) = true := decide_eq_true c4
 clear c4
 by_cases c5 : (ji3) ≤ (wrap64 ((ji3) + 8))
 rotate_left
 ·rw [if_neg c5] at H
  exact absurd H (by simp)
 rw [if_pos c5] at H
 have c5b0 := eq_true c5
 have c5b1 : decide ((ji3) ≤ (wrap64 ((ji3) + 8))) = true := decide_eq_true c5
 by_cases c6 : (wrap64 ((ji3) + 8)) ≤ 281474976710656
 rotate_left
 ·rw [if_neg c6] at H
  exact absurd H (by simp)
 rw [if_pos c6] at H
 have c6b0 := eq_true c6
 have c6b1 : decide ((wrap64 ((ji3) + 8)) ≤ 281474976710656) = true := decide_eq_true c6
 obtain ⟨y101, hy101⟩ : ∃ y_ : List Int, y_ = (List.replicate (ji3 : Int).toNat 0) := ⟨_, rfl⟩
 replace H : (if 0 < (y101.length : Int) then (digest_Pad.l0 k (y101.set (0 : Int).toNat 128) (IntKind.u64.wrap ((IntKind.u64.wrap (ji2)) * 8)) 0) else (none)) = some r := by first | (rw [hy101]; with_reducible exact H) | (have H2_ := (Option.bind_some _ _).symm.trans H; rw [hy101]; with_reducible exact H2_) | (have H2_ := (Option.bind_some _ _).symm.trans H; with_reducible exact H2_) | with_reducible exact H | (rw [hy101]; exact H) | exact H
 have Ny101 := A0_.mk hy101
 clear hy101
 by_cases c7 : 0 < (y101.length : Int)
 rotate_left
 ·rw [if_neg c7] at H
  exact absurd H (by simp)
 rw [if_pos c7] at H
 have c7b0 : decide (0 < (y101.length : Int)) = true := decide_eq_true c7
 have c7b1 : decide (0 < y101.length) = true := decide_eq_true (by omega)
 clear c7
 obtain ⟨y104, hy104⟩ : ∃ y_ : List Int, y_ = (y101.set (0 : Int).toNat 128) := ⟨_, rfl⟩
 replace H : (digest_Pad.l0 k y104 (IntKind.u64.wrap ((IntKind.u64.wrap (ji2)) * 8)) 0) = some r := by first | (rw [hy104]; with_reducible exact H) | (have H2_ := (Option.bind_some _ _).symm.trans H; rw [hy104]; with_reducible exact H2_) | (have H2_ := (Option.bind_some _ _).symm.trans H; with_reducible exact H2_) | with_reducible exact H | (rw [hy104]; exact H) | exact H
 have Ny104 := A0_.mk hy104
 clear hy104
 have H' := A0_.mk H
 clear H
 go_enter Tryd.func33, Tryd.ntmps33
 go_wp2_with (first | ((with_reducible refine gD (N := 18) rfl ?_); refine Kd.R_makecap (Kd.int .u8) _ 5 rfl (N := 18) rfl 42 _ _ rfl ji3 (wrap64 ((ji3) + 8)) rfl rfl Tryd.underlying42 (.int .u8 0) 1 info5 rfl (by decide) (by omega) 0 (ok := fun _ => True) (okp := fun _ => True) rfl (fun _ hk => hk) trivial (SQ.da) (SQ.da) (le_cap_ (by_ := 1) (K := 281474976710656) (SQ.da) (by decide)) (Below.refl _ _) (Nat.le_refl _) ?_; intro v102 w9 ho10 hb hg_ hnew_; clear hg_ hnew_; (first | rw [← Ny101.out] at ho10 | (simp only [Int.reduceToNat] at ho10; rw [← Ny101.out] at ho10)); have HO103 := A0_.mk (Kd.R_lower ho10 (wZ SQ.bw)); replace HB := A0_.mk (wT SQ.bw hb); clear hb ho10; have p8 : 0 ≤ (0 : Int) := (by omega); have q8 : (0 : Int) < ((y101.length : Int) : Int) := SQ.da; have qi8 : (0 < y101.length) = True := eq_true (by omega); obtain ⟨go8, co8, eo8, gb8, gl8, cl8, HG8⟩ := Kd.R_form HO103.out (by omega); (first | cases eo8 | (injection eo8 with ea_ en_ ec_; (first | subst ea_ | (injection ea_ with ea_; subst ea_)); subst ec_; clear en_)); have GB8 := A0_.mk gb8; have GG8 := A0_.mk HG8; clear gb8 gl8 HG8; obtain ⟨hx8_0, hf8_0⟩ := Kd.R_celln 0 HO103.out (0 : Int) p8 q8; (try rw [show ((0 : Int)).toNat = 0 from rfl] at hx8_0); (try simp only [Nat.reduceMul, Nat.zero_mul, Nat.zero_add, Nat.reduceAdd] at hx8_0); (try rw [show ((0 : Int)).toNat = 0 from rfl] at hf8_0); (try simp only [Nat.reduceMul, Nat.zero_mul, Nat.zero_add, Nat.reduceAdd] at hf8_0); replace p8 := eq_true p8; replace q8 := eq_true q8; obtain ⟨hy11_, hz11_⟩ := Kd.R_celln 0 HO103.out (0 : Int) (by omega) (SQ.da); (try simp only [Int.reduceToNat, Int.toNat_zero, Int.toNat_ofNat, Nat.reduceMul, Nat.zero_mul, Nat.zero_add] at hy11_ hz11_); (try rw [show ((0 : Int)).toNat = 0 from rfl] at hy11_); (try rw [show ((0 : Int)).toNat = 0 from rfl] at hz11_); have HP11 := Kd.R_putg HO103.out (0 : Int) 128) | ((with_reducible refine gS (t := 5) (p := 20) rfl ?_); refine sE (t := 5) (p := 20) (v := ?vo_w12) (w1 := (w9.setCell ⟨go8, (0 : Int).toNat, none⟩ (.int .u8 128))) ?hg ?ho ?hn ?hr ?_; (case ho => rfl); (case hg => rfl); (case hn => rfl); (case hr => first | (go_simp; done) | (go_simp; rfl)); intro w12 hw; have hg : w9.grownBy w12 (some go8) := (by rw [hw]; exact HP11.2); have hp_ : Kd.R (Kd.int .u8) 5 w12 w.heap.size (fun _ => True) (.slice (some ⟨go8, 0, none⟩) y101.length co8) y104 := (by rw [hw, Ny104.out]; exact HP11.1); clear HP11; replace HO103 := A0_.mk (hp_); replace HB := A0_.mk ((by rw [hw]; exact wS (HB.out) GB8.out : Below w.heap.size w w12)); clear hg hw hp_))
 go_loopg [4, 24] k (fun kq v4 v24 w' => ∃ (x4_1 : List Int) (x24_1 : Int), v24 = .int .i64 x24_1 ∧ A0_ (digest_Pad.l0 kq x4_1 (IntKind.u64.wrap ((IntKind.u64.wrap (ji2)) * 8)) x24_1 = some r) ∧ A0_ (kq ≤ k) ∧ A0_ (Kd.R (Kd.int .u8) 5 w' w.heap.size (fun _ => True) v4 x4_1) ∧ A0_ (Below w.heap.size w w'))
 case atStart => exact ⟨(y104), (0), (by first | rfl | (simp; done) | (simp [*]; done)), H', ⟨Nat.le_refl _⟩, ⟨by (with_reducible repeat (first | apply Kd.R_alloc | apply Kd.R_drewN | apply Kd.R_drew)); exact HO103.out⟩, ⟨SQ.bw⟩⟩
 case round =>
  clear H'
  try clear p2
  try clear c3
  try clear c4
  try clear c4b0
  try clear c4b1
  try clear c5
  try clear c5b0
  try clear c5b1
  try clear c6
  try clear c6b0
  try clear c6b1
  try clear p6
  try clear c7
  try clear c7b0
  try clear c7b1
  try clear p8
  try clear q8
  try clear hx8
  try clear qi8
  try clear hf8
  try clear hx8_0
  try clear p8
  try clear q8
  obtain ⟨x4_1, x24_1, rfl, HA, HK1, HO_4, HB⟩ := hrel
  cases gk with
  | zero => exact absurd HA.out (by simp [digest_Pad.l0])
  | succ k1 =>
   have H := HA.out
   clear HA
   simp only [digest_Pad.l0] at H
   by_cases c13 : x24_1 < 8
   ·rw [if_pos c13] at H
    have c13b0 : decide (x24_1 < 8) = true := decide_eq_true c13
    clear c13
    obtain ⟨ji14, hji14⟩ : ∃ j_ : Int, (wrap64 (8 * (wrap64 (7 - x24_1)))) = j_ := ⟨_, rfl⟩
    replace H : (if 0 ≤ (ji14) then (if x4_1.length < 140737488355328 then (digest_Pad.l0 k1 (x4_1 ++ [(shr .u64 (IntKind.u64.wrap ((IntKind.u64.wrap (ji2)) * 8)) (ji14)) % 256]) (IntKind.u64.wrap ((IntKind.u64.wrap (ji2)) * 8)) (wrap64 (x24_1 + 1))) else (none)) else (none)) = some r := by first | (rw [hji14] at H; exact H) | (simp only [hji14] at H ⊢; exact H)
    have hji14w : (IntKind.i64.wrap (8 * (wrap64 (7 - x24_1)))) = ji14 := (i64_w _).trans hji14
    by_cases c15 : 0 ≤ (ji14)
    rotate_left
    ·rw [if_neg c15] at H
     exact absurd H (by simp)
    rw [if_pos c15] at H
    have c15b0 := eq_true c15
    have c15b1 : decide (0 ≤ (ji14)) = true := decide_eq_true c15
    clear c15
    obtain ⟨ji16, hji16⟩ : ∃ j_ : Int, (shr .u64 (IntKind.u64.wrap ((IntKind.u64.wrap (ji2)) * 8)) (ji14)) = j_ := ⟨_, rfl⟩
    replace H : (if x4_1.length < 140737488355328 then (digest_Pad.l0 k1 (x4_1 ++ [(ji16) % 256]) (IntKind.u64.wrap ((IntKind.u64.wrap (ji2)) * 8)) (wrap64 (x24_1 + 1))) else (none)) = some r := by first | (rw [hji16] at H; exact H) | (simp only [hji16] at H ⊢; exact H)
    have hji16_ : ((IntKind.u64.wrap ((IntKind.u64.wrap (ji2)) * 8)) / 2 ^ min (ji14).toNat 64) = ji16 := hji16
    have hji16z : (ji14) ≤ 64 → ((IntKind.u64.wrap ((IntKind.u64.wrap (ji2)) * 8)) / 2 ^ (ji14).toNat) = ji16 := shr_small hji16
    by_cases c17 : x4_1.length < 140737488355328
    rotate_left
    ·rw [if_neg c17] at H
     exact absurd H (by simp)
    rw [if_pos c17] at H
    have LMc17 := A0_.mk c17
    clear c17
    obtain ⟨y105, hy105⟩ : ∃ y_ : List Int, y_ = (x4_1 ++ [(ji16) % 256]) := ⟨_, rfl⟩
    replace H : (digest_Pad.l0 k1 y105 (IntKind.u64.wrap ((IntKind.u64.wrap (ji2)) * 8)) (wrap64 (x24_1 + 1))) = some r := by first | (rw [hy105]; with_reducible exact H) | (have H2_ := (Option.bind_some _ _).symm.trans H; rw [hy105]; with_reducible exact H2_) | (have H2_ := (Option.bind_some _ _).symm.trans H; with_reducible exact H2_) | with_reducible exact H | (rw [hy105]; exact H) | exact H
    have Ny105 := A0_.mk hy105
    clear hy105
    have H' := A0_.mk H
    clear H
    go_wp2_with (first | ((with_reducible refine gate_builtin (b := .append) (xs := #[.tmp 27, .tmp 34]) rfl ?_); at_builtin; refine Kd.R_append (Kd.int .u8) (w0 := w) w.heap.size rfl (.tmp 27) (.tmp 34) 42 5 (.int .u8 0) 1 rfl Tryd.underlying42 info5 rfl (by decide) (by omega) u4 x4_1 ((ji16) % 256) [.int .u8 ((ji16) % 256)] (fun _ => True) (fun _ => False) rfl rfl ?aP (fun _ hk => hk.elim) ?aF ?aO ?aB ?aS ?aL ?_; (case aP => exact rfl); (case aB => exact SQ.bw); (case aF => exact (fun _ _ => trivial)); (case aO => exact (by (with_reducible repeat (first | apply Kd.R_alloc | apply Kd.R_drewN | apply Kd.R_drew)); exact HO_4.out)); (case aS => exact (wZ SQ.bw)); (case aL => have := LMc17.out; omega); intro v106 w18 ho hb hg hat; rw [← Ny105.out] at ho; have HO107 := A0_.mk (ho); replace HB := A0_.mk (hb); clear HO_4; clear ho hb hg hat))
    go_roundg k1
    case measure => have := HK1.out; omega
    case rel => exact ⟨(y105), (wrap64 (x24_1 + 1)), (by first | rfl | (simp; done) | (simp [*]; done)), H', ⟨by have := HK1.out; omega⟩, ⟨by (with_reducible repeat (first | apply Kd.R_alloc | apply Kd.R_drewN | apply Kd.R_drew)); exact HO107.out⟩, ⟨SQ.bw⟩⟩
   ·rw [if_neg c13] at H
    have c13b0 : decide (x24_1 < 8) = false := decide_eq_false c13
    clear c13
    obtain rfl := Option.some.inj H
    have hcv19 := own_string (P := Tryd.prog) Tryd.underlying42 Tryd.underlying5 Tryd.underlying9 (Kd.own_of_R HO_4.out)
    go_wp2
    go_ret
    exact ⟨by first | rfl | (simp [errW_none, errW_some] <;> rfl) | (simp only [← hji2, ← hji3]; first | rfl | (simp [errW_none, errW_some] <;> rfl)) | (simp [*, errW_none, errW_some] <;> rfl), SQ.bw⟩

/-! ### bits_RotateLeft32: function 64 -/
/-! ### digest_turned: function 52 -/
-- NOT PRINTED: function 51 (digest_schedule)

-- NOT PRINTED: function 34 (digest_Block)

-- NOT PRINTED: function 18 (digest_Of)

/-! ### r4Pad: function 59 -/
mutual
def r4Pad.l0 : Nat → Int → List Int → Option (ByteArray)
 | 0, _, _ => none
 | k + 1, x0, x3 => if (Int.tmod (wrap64 (x0 + (x3.length : Int))) 64) = 56 then (r4Pad.l1 k x3 (IntKind.u64.wrap ((IntKind.u64.wrap (x0)) * 8)) 7) else (if x3.length < 140737488355328 then (r4Pad.l0 k x0 (x3 ++ [0])) else (none))
def r4Pad.l1 : Nat → List Int → Int → Int → Option (ByteArray)
 | 0, _, _, _ => none
 | k + 1, x3, x4, x5 => if x5 ≥ 0 then (if 0 ≤ (IntKind.u64.wrap (wrap64 (8 * x5))) then (if x3.length < 140737488355328 then (r4Pad.l1 k (x3 ++ [(shr .u64 x4 (IntKind.u64.wrap (wrap64 (8 * x5)))) % 256]) x4 (wrap64 (x5 - 1))) else (none)) else (none)) else (some (strOfNums x3))
end
def r4Pad.f (k : Nat) (a0 : Int) : Option (ByteArray) := r4Pad.l0 k (mx 0 a0) (([128] : List Int))
set_option maxHeartbeats 8000000 in
set_option maxRecDepth 100000 in
theorem r4Pad.calls (k : Nat) (a0 : Int) (r : ByteArray) (w : World) (h : r4Pad.f k a0 = some r) :
  Calls Tryd.prog 59 #[.int .i64 a0] w fun e w' => e = .returned (.string r) ∧ Below w.heap.size w w' := by
 have HB := A0_.mk (Below.refl w.heap.size w)
 have H : (r4Pad.l0 k (mx 0 a0) (([128] : List Int))) = some r := h
 clear h
 obtain ⟨ji2, hji2⟩ : ∃ j_ : Int, (mx 0 a0) = j_ := ⟨_, rfl⟩
 replace H : (r4Pad.l0 k ji2 (([128] : List Int))) = some r := by first | (rw [hji2] at H; exact H) | (simp only [hji2] at H ⊢; exact H)
 (try (have hji2l : 0 ≤ ji2 := by (rw [← hji2]; unfold mx; (repeat' split) <;> omega)))
 (try (have hji2m : 0 ≤ ji2 := by omega))
 have hji2_ : (if 0 < a0 then a0 else 0) = ji2 := hji2
 obtain ⟨y110, hy110⟩ : ∃ y_ : List Int, y_ = (([128] : List Int)) := ⟨_, rfl⟩
 replace H : (r4Pad.l0 k ji2 y110) = some r := by first | (rw [hy110]; with_reducible exact H) | (have H2_ := (Option.bind_some _ _).symm.trans H; rw [hy110]; with_reducible exact H2_) | (have H2_ := (Option.bind_some _ _).symm.trans H; with_reducible exact H2_) | with_reducible exact H | (rw [hy110]; exact H) | exact H
 have Ny110 := A0_.mk hy110
 clear hy110
 have H' := A0_.mk H
 clear H
 go_enter Tryd.func59, Tryd.ntmps59
 go_wp2_with (first | ((with_reducible refine gD (N := 8) rfl ?_); refine Kd.R_lit (Kd.int .u8) _ 5 ?hg (N := 8) ?hd (xs := ([128] : List Int)) (inner := [.int .u8 128]) (ok := fun _ => True) (okp := fun _ => True) ?hr ?hp (fun _ hk => hk) trivial (Below.refl _ _) (Nat.le_refl _) (by simp) ?_; (case hd => rfl); (case hg => rfl); (case hr => first | (go_simp; done) | (go_simp; rfl)); (case hp => exact (Reps.one (show Kd.M (Kd.int .u8) _ _ _ 128 [.int .u8 128] from rfl) (Reps.none _ _))); intro v111 w3 ho4 hb hg_ hnew_; clear hg_ hnew_; (first | rw [← Ny110.out] at ho4 | (simp only [Int.reduceToNat] at ho4; rw [← Ny110.out] at ho4)); have HO112 := A0_.mk (Kd.R_lower ho4 (wZ SQ.bw)); replace HB := A0_.mk (wT SQ.bw hb); clear hb ho4))
 go_loopg [3] k (fun kq v3 w' => ∃ (x3_1 : List Int), A0_ (r4Pad.l0 kq ji2 x3_1 = some r) ∧ A0_ (kq ≤ k) ∧ A0_ (Kd.R (Kd.int .u8) 5 w' w.heap.size (fun _ => True) v3 x3_1) ∧ A0_ (Below w.heap.size w w'))
 case atStart => exact ⟨(y110), H', ⟨Nat.le_refl _⟩, ⟨by (with_reducible repeat (first | apply Kd.R_alloc | apply Kd.R_drewN | apply Kd.R_drew)); exact HO112.out⟩, ⟨SQ.bw⟩⟩
 case round =>
  clear H'
  try clear p2
  obtain ⟨x3_1, HA, HK1, HO_3, HB⟩ := hrel
  cases gk with
  | zero => exact absurd HA.out (by simp [r4Pad.l0])
  | succ k1 =>
   have H := HA.out
   clear HA
   simp only [r4Pad.l0] at H
   by_cases c5 : (Int.tmod (wrap64 (ji2 + (x3_1.length : Int))) 64) = 56
   ·rw [if_pos c5] at H
    have c5b0 : ((Int.tmod (wrap64 (ji2 + (x3_1.length : Int))) 64) == 56) = true := beq_iff_eq.mpr c5
    have c5b1 : ((Int.tmod (wrap64 (ji2 + (x3_1.length : Int))) 64) != 56) = false := bne_eq_false_iff_eq.mpr c5
    clear c5
    have H' := A0_.mk H
    clear H
    obtain ⟨Ao6, co6, eo6⟩ := Kd.R_slice HO_3.out
    subst eo6
    go_wp2
    go_loopg [3, 5] k1 (fun kq v3 v5 w' => ∃ (x3_2 : List Int) (x5_2 : Int), v5 = .int .i64 x5_2 ∧ A0_ (r4Pad.l1 kq x3_2 (IntKind.u64.wrap ((IntKind.u64.wrap (ji2)) * 8)) x5_2 = some r) ∧ A0_ (kq ≤ k1) ∧ A0_ (Kd.R (Kd.int .u8) 5 w' w.heap.size (fun _ => True) v3 x3_2) ∧ A0_ (Below w.heap.size w w'))
    case atStart => exact ⟨(x3_1), (7), (by first | rfl | (simp; done) | (simp [*]; done)), H', ⟨Nat.le_refl _⟩, ⟨by (with_reducible repeat (first | apply Kd.R_alloc | apply Kd.R_drewN | apply Kd.R_drew)); exact HO_3.out⟩, ⟨SQ.bw⟩⟩
    case round =>
     clear H'
     try clear p2
     try clear c5
     try clear c5b0
     try clear c5b1
     try clear p6
     try clear p2
     obtain ⟨x3_2, x5_2, rfl, HA, HK2, HO_3, HB⟩ := hrel
     cases gk with
     | zero => exact absurd HA.out (by simp [r4Pad.l1])
     | succ k2 =>
      have H := HA.out
      clear HA
      simp only [r4Pad.l1] at H
      by_cases c7 : x5_2 ≥ 0
      ·rw [if_pos c7] at H
       have c7b0 : decide (0 ≤ x5_2) = true := decide_eq_true c7
       clear c7
       obtain ⟨ji8, hji8⟩ : ∃ j_ : Int, (IntKind.u64.wrap (wrap64 (8 * x5_2))) = j_ := ⟨_, rfl⟩
       replace H : (if 0 ≤ (ji8) then (if x3_2.length < 140737488355328 then (r4Pad.l1 k2 (x3_2 ++ [(shr .u64 (IntKind.u64.wrap ((IntKind.u64.wrap (ji2)) * 8)) (ji8)) % 256]) (IntKind.u64.wrap ((IntKind.u64.wrap (ji2)) * 8)) (wrap64 (x5_2 - 1))) else (none)) else (none)) = some r := by first | (rw [hji8] at H; exact H) | (simp only [hji8] at H ⊢; exact H)
       by_cases c9 : 0 ≤ (ji8)
       rotate_left
       ·rw [if_neg c9] at H
        exact absurd H (by simp)
       rw [if_pos c9] at H
       have c9b0 := eq_true c9
       have c9b1 : decide (0 ≤ (ji8)) = true := decide_eq_true c9
       clear c9
       obtain ⟨ji10, hji10⟩ : ∃ j_ : Int, (shr .u64 (IntKind.u64.wrap ((IntKind.u64.wrap (ji2)) * 8)) (ji8)) = j_ := ⟨_, rfl⟩
       replace H : (if x3_2.length < 140737488355328 then (r4Pad.l1 k2 (x3_2 ++ [(ji10) % 256]) (IntKind.u64.wrap ((IntKind.u64.wrap (ji2)) * 8)) (wrap64 (x5_2 - 1))) else (none)) = some r := by first | (rw [hji10] at H; exact H) | (simp only [hji10] at H ⊢; exact H)
       have hji10_ : ((IntKind.u64.wrap ((IntKind.u64.wrap (ji2)) * 8)) / 2 ^ min (ji8).toNat 64) = ji10 := hji10
       have hji10z : (ji8) ≤ 64 → ((IntKind.u64.wrap ((IntKind.u64.wrap (ji2)) * 8)) / 2 ^ (ji8).toNat) = ji10 := shr_small hji10
       by_cases c11 : x3_2.length < 140737488355328
       rotate_left
       ·rw [if_neg c11] at H
        exact absurd H (by simp)
       rw [if_pos c11] at H
       have LMc11 := A0_.mk c11
       clear c11
       obtain ⟨y116, hy116⟩ : ∃ y_ : List Int, y_ = (x3_2 ++ [(ji10) % 256]) := ⟨_, rfl⟩
       replace H : (r4Pad.l1 k2 y116 (IntKind.u64.wrap ((IntKind.u64.wrap (ji2)) * 8)) (wrap64 (x5_2 - 1))) = some r := by first | (rw [hy116]; with_reducible exact H) | (have H2_ := (Option.bind_some _ _).symm.trans H; rw [hy116]; with_reducible exact H2_) | (have H2_ := (Option.bind_some _ _).symm.trans H; with_reducible exact H2_) | with_reducible exact H | (rw [hy116]; exact H) | exact H
       have Ny116 := A0_.mk hy116
       clear hy116
       have H' := A0_.mk H
       clear H
       go_wp2_with (first | ((with_reducible refine gate_builtin (b := .append) (xs := #[.tmp 25, .tmp 32]) rfl ?_); at_builtin; refine Kd.R_append (Kd.int .u8) (w0 := w) w.heap.size rfl (.tmp 25) (.tmp 32) 42 5 (.int .u8 0) 1 rfl Tryd.underlying42 info5 rfl (by decide) (by omega) u3 x3_2 ((ji10) % 256) [.int .u8 ((ji10) % 256)] (fun _ => True) (fun _ => False) rfl rfl ?aP (fun _ hk => hk.elim) ?aF ?aO ?aB ?aS ?aL ?_; (case aP => exact rfl); (case aB => exact SQ.bw); (case aF => exact (fun _ _ => trivial)); (case aO => exact (by (with_reducible repeat (first | apply Kd.R_alloc | apply Kd.R_drewN | apply Kd.R_drew)); exact HO_3.out)); (case aS => exact (wZ SQ.bw)); (case aL => have := LMc11.out; omega); intro v117 w12 ho hb hg hat; rw [← Ny116.out] at ho; have HO118 := A0_.mk (ho); replace HB := A0_.mk (hb); clear HO_3; clear ho hb hg hat))
       go_roundg k2
       case measure => have := HK1.out; have := HK2.out; omega
       case rel => exact ⟨(y116), (wrap64 (x5_2 - 1)), (by first | rfl | (simp; done) | (simp [*]; done)), H', ⟨by have := HK1.out; have := HK2.out; omega⟩, ⟨by (with_reducible repeat (first | apply Kd.R_alloc | apply Kd.R_drewN | apply Kd.R_drew)); exact HO118.out⟩, ⟨SQ.bw⟩⟩
      ·rw [if_neg c7] at H
       have c7b0 : decide (0 ≤ x5_2) = false := decide_eq_false c7
       clear c7
       obtain rfl := Option.some.inj H
       have hcv13 := own_string (P := Tryd.prog) Tryd.underlying42 Tryd.underlying5 Tryd.underlying9 (Kd.own_of_R HO_3.out)
       go_wp2
       go_ret
       exact ⟨by first | rfl | (simp [errW_none, errW_some] <;> rfl) | (simp only [← hji2]; first | rfl | (simp [errW_none, errW_some] <;> rfl)) | (simp [*, errW_none, errW_some] <;> rfl), SQ.bw⟩
   ·rw [if_neg c5] at H
    have c5b0 : ((Int.tmod (wrap64 (ji2 + (x3_1.length : Int))) 64) == 56) = false := beq_eq_false_iff_ne.mpr c5
    have c5b1 : ((Int.tmod (wrap64 (ji2 + (x3_1.length : Int))) 64) != 56) = true := bne_iff_ne.mpr c5
    by_cases c14 : x3_1.length < 140737488355328
    rotate_left
    ·rw [if_neg c14] at H
     exact absurd H (by simp)
    rw [if_pos c14] at H
    have LMc14 := A0_.mk c14
    clear c14
    obtain ⟨y113, hy113⟩ : ∃ y_ : List Int, y_ = (x3_1 ++ [0]) := ⟨_, rfl⟩
    replace H : (r4Pad.l0 k1 ji2 y113) = some r := by first | (rw [hy113]; with_reducible exact H) | (have H2_ := (Option.bind_some _ _).symm.trans H; rw [hy113]; with_reducible exact H2_) | (have H2_ := (Option.bind_some _ _).symm.trans H; with_reducible exact H2_) | with_reducible exact H | (rw [hy113]; exact H) | exact H
    have Ny113 := A0_.mk hy113
    clear hy113
    have H' := A0_.mk H
    clear H
    obtain ⟨Ao15, co15, eo15⟩ := Kd.R_slice HO_3.out
    subst eo15
    go_wp2_with (first | ((with_reducible refine gate_builtin (b := .append) (xs := #[.tmp 15, .tmp 16]) rfl ?_); at_builtin; refine Kd.R_append (Kd.int .u8) (w0 := w) w.heap.size rfl (.tmp 15) (.tmp 16) 42 5 (.int .u8 0) 1 rfl Tryd.underlying42 info5 rfl (by decide) (by omega) (.slice Ao15 x3_1.length co15) x3_1 0 [.int .u8 0] (fun _ => True) (fun _ => False) rfl rfl ?aP (fun _ hk => hk.elim) ?aF ?aO ?aB ?aS ?aL ?_; (case aP => exact rfl); (case aB => exact SQ.bw); (case aF => exact (fun _ _ => trivial)); (case aO => exact (by (with_reducible repeat (first | apply Kd.R_alloc | apply Kd.R_drewN | apply Kd.R_drew)); exact HO_3.out)); (case aS => exact (wZ SQ.bw)); (case aL => have := LMc14.out; omega); intro v114 w16 ho hb hg hat; rw [← Ny113.out] at ho; have HO115 := A0_.mk (ho); replace HB := A0_.mk (hb); clear HO_3; clear ho hb hg hat))
    go_roundg k1
    case measure => have := HK1.out; omega
    case rel => exact ⟨(y113), H', ⟨by have := HK1.out; omega⟩, ⟨by (with_reducible repeat (first | apply Kd.R_alloc | apply Kd.R_drewN | apply Kd.R_drew)); exact HO115.out⟩, ⟨SQ.bw⟩⟩

/-! ### r4turn: function 68 -/
def r4turn.f (a0 : Int) (a1 : Int) : Option (Int) := if 0 ≤ a1 then (if 0 ≤ (IntKind.u64.wrap (32 - a1)) then (some (Go.bits .or .u32 (shr .u32 a0 a1) (shl .u32 a0 (IntKind.u64.wrap (32 - a1))))) else (none)) else (none)
-- NOT PRINTED: function 60 (r4Step)

-- NOT PRINTED: function 48 (r4With)

/-! ### r4primes: function 61 -/
mutual
def r4primes.l0 : Nat → Int → List Int → Int → Option (List Int)
 | 0, _, _, _ => none
 | k + 1, x0, x3, x4 => if (x3.length : Int) < x0 then (r4primes.l1 k x0 x3 x4 true 0) else (some x3)
def r4primes.l1 : Nat → Int → List Int → Int → Bool → Int → Option (List Int)
 | 0, _, _, _, _, _ => none
 | k + 1, x0, x3, x4, x5, x6 => if x6 < (x3.length : Int) then (if x5 = true then (if 0 ≤ x6 then (if (rd x3 x6) = 0 then (none) else (r4primes.l1 k x0 x3 x4 ((Int.tmod x4 (rd x3 x6)) != 0) (wrap64 (x6 + 1)))) else (none)) else (r4primes.l0 k x0 x3 (IntKind.u64.wrap (x4 + 1)))) else (if x5 = true then (if x3.length < 17592186044416 then (r4primes.l0 k x0 (x3 ++ [x4]) (IntKind.u64.wrap (x4 + 1))) else (none)) else (r4primes.l0 k x0 x3 (IntKind.u64.wrap (x4 + 1))))
end
def r4primes.f (k : Nat) (a0 : Int) : Option (List Int) := r4primes.l0 k a0 ([] : List Int) 2
set_option maxHeartbeats 8000000 in
set_option maxRecDepth 100000 in
theorem r4primes.calls (k : Nat) (a0 : Int) (r : List Int) (w : World) (h : r4primes.f k a0 = some r) :
  Calls Tryd.prog 61 #[.int .i64 a0] w fun e w' => ∃ v0_ : Value, e = .returned (v0_) ∧ Kd.R (Kd.int .u64) 83 w' w.heap.size (fun _ => True) v0_ r ∧ Below w.heap.size w w' := by
 have HB := A0_.mk (Below.refl w.heap.size w)
 have H : (r4primes.l0 k a0 ([] : List Int) 2) = some r := h
 clear h
 have H' := A0_.mk H
 clear H
 go_enter Tryd.func61, Tryd.ntmps61
 go_wp2
 go_loopg [3, 4] k (fun kq v3 v4 w' => ∃ (x3_1 : List Int) (x4_1 : Int), v4 = .int .u64 x4_1 ∧ A0_ (r4primes.l0 kq a0 x3_1 x4_1 = some r) ∧ A0_ (kq ≤ k) ∧ A0_ (Kd.R (Kd.int .u64) 83 w' w.heap.size (fun _ => True) v3 x3_1) ∧ A0_ (Below w.heap.size w w'))
 case atStart => exact ⟨(([] : List Int)), (2), (by first | rfl | (simp; done) | (simp [*]; done)), H', ⟨Nat.le_refl _⟩, ⟨by first | exact Kd.R_nil _ _ _ _ _ | exact Kd.N_nil _ _ _ _ _ | exact Kd.V_nil _ _ _ _ _ | exact Kd.Q_nil _ _ _ _ _ | exact Kd.S_nil _ _ _ _ _⟩, ⟨SQ.bw⟩⟩
 case round =>
  clear H'
  obtain ⟨x3_1, x4_1, rfl, HA, HK1, HO_3, HB⟩ := hrel
  cases gk with
  | zero => exact absurd HA.out (by simp [r4primes.l0])
  | succ k1 =>
   have H := HA.out
   clear HA
   simp only [r4primes.l0] at H
   by_cases c2 : (x3_1.length : Int) < a0
   ·rw [if_pos c2] at H
    have c2b0 : decide ((x3_1.length : Int) < a0) = true := decide_eq_true c2
    clear c2
    have H' := A0_.mk H
    clear H
    obtain ⟨Ao3, co3, eo3⟩ := Kd.R_slice HO_3.out
    subst eo3
    go_wp2
    go_loopg [5, 6] k1 (fun kq v5 v6 w' => ∃ (x5_2 : Bool) (x6_2 : Int), v5 = .bool x5_2 ∧ v6 = .int .i64 x6_2 ∧ A0_ (r4primes.l1 kq a0 x3_1 x4_1 x5_2 x6_2 = some r) ∧ A0_ (kq ≤ k1) ∧ A0_ (Kd.R (Kd.int .u64) 83 w' w.heap.size (fun _ => True) (.slice Ao3 x3_1.length co3) x3_1) ∧ A0_ (Below w.heap.size w w'))
    case atStart => exact ⟨(true), (0), (by first | rfl | (simp; done) | (simp [*]; done)), (by first | rfl | (simp; done) | (simp [*]; done)), H', ⟨Nat.le_refl _⟩, ⟨by (with_reducible repeat (first | apply Kd.R_alloc | apply Kd.R_drewN | apply Kd.R_drew)); exact HO_3.out⟩, ⟨SQ.bw⟩⟩
    case round =>
     clear H'
     try clear c2
     try clear c2b0
     try clear p2
     obtain ⟨x5_2, x6_2, rfl, rfl, HA, HK2, HO_3, HB⟩ := hrel
     cases gk with
     | zero => exact absurd HA.out (by simp [r4primes.l1])
     | succ k2 =>
      have H := HA.out
      clear HA
      simp only [r4primes.l1] at H
      by_cases c4 : x6_2 < (x3_1.length : Int)
      ·rw [if_pos c4] at H
       have c4b0 : decide (x6_2 < (x3_1.length : Int)) = true := decide_eq_true c4
       clear c4
       by_cases c5 : x5_2 = true
       ·subst c5
        rw [if_pos rfl] at H
        by_cases c6 : 0 ≤ x6_2
        rotate_left
        ·rw [if_neg c6] at H
         exact absurd H (by simp)
        rw [if_pos c6] at H
        have c6b0 : decide (0 ≤ x6_2) = true := decide_eq_true c6
        clear c6
        by_cases c7 : (rd x3_1 x6_2) = 0
        ·rw [if_pos c7] at H
         exact absurd H (by simp)
        ·rw [if_neg c7] at H
         have c7b0 : ((rd x3_1 x6_2) == 0) = false := beq_eq_false_iff_ne.mpr c7
         have c7b1 : ((rd x3_1 x6_2) != 0) = true := bne_iff_ne.mpr c7
         have H' := A0_.mk H
         clear H
         have p119 : 0 ≤ (x6_2 : Int) := SQ.da
         have q119 : x6_2 < (x3_1.length : Int) := SQ.da
         obtain ⟨ad119, e119, hx119_0⟩ := Kd.at_int (Kd.R_reads' HO_3.out).2.2 x6_2 p119 q119
         cases e119
         replace p119 := eq_true p119
         replace q119 := eq_true q119
         go_wp2
         go_roundg k2
         case measure => have := HK1.out; have := HK2.out; omega
         case rel => exact ⟨(((Int.tmod x4_1 (rd x3_1 x6_2)) != 0)), (wrap64 (x6_2 + 1)), (by first | rfl | (simp; done) | (simp [*]; done)), (by first | rfl | (simp; done) | (simp [*]; done)), H', ⟨by have := HK1.out; have := HK2.out; omega⟩, ⟨by (with_reducible repeat (first | apply Kd.R_alloc | apply Kd.R_drewN | apply Kd.R_drew)); exact HO_3.out⟩, ⟨SQ.bw⟩⟩
       ·replace c5 := Bool.eq_false_iff.mpr c5
        subst c5
        rw [if_neg (show ¬ (false = true) by decide)] at H
        have H' := A0_.mk H
        clear H
        go_wp2
        go_roundg k2
        case measure => have := HK1.out; have := HK2.out; omega
        case rel => exact ⟨(x3_1), (IntKind.u64.wrap (x4_1 + 1)), (by first | rfl | (simp; done) | (simp [*]; done)), H', ⟨by have := HK1.out; have := HK2.out; omega⟩, ⟨by (with_reducible repeat (first | apply Kd.R_alloc | apply Kd.R_drewN | apply Kd.R_drew)); exact HO_3.out⟩, ⟨SQ.bw⟩⟩
      ·rw [if_neg c4] at H
       have c4b0 : decide (x6_2 < (x3_1.length : Int)) = false := decide_eq_false c4
       clear c4
       by_cases c8 : x5_2 = true
       ·subst c8
        rw [if_pos rfl] at H
        by_cases c9 : x3_1.length < 17592186044416
        rotate_left
        ·rw [if_neg c9] at H
         exact absurd H (by simp)
        rw [if_pos c9] at H
        have LMc9 := A0_.mk c9
        clear c9
        obtain ⟨y120, hy120⟩ : ∃ y_ : List Int, y_ = (x3_1 ++ [x4_1]) := ⟨_, rfl⟩
        replace H : (r4primes.l0 k2 a0 y120 (IntKind.u64.wrap (x4_1 + 1))) = some r := by first | (rw [hy120]; with_reducible exact H) | (have H2_ := (Option.bind_some _ _).symm.trans H; rw [hy120]; with_reducible exact H2_) | (have H2_ := (Option.bind_some _ _).symm.trans H; with_reducible exact H2_) | with_reducible exact H | (rw [hy120]; exact H) | exact H
        have Ny120 := A0_.mk hy120
        clear hy120
        have H' := A0_.mk H
        clear H
        go_wp2_with (first | ((with_reducible refine gate_builtin (b := .append) (xs := #[.tmp 30, .tmp 32]) rfl ?_); at_builtin; refine Kd.R_append (Kd.int .u64) (w0 := w) w.heap.size rfl (.tmp 30) (.tmp 32) 94 83 (.int .u64 0) 8 rfl Tryd.underlying94 info83 rfl (by decide) (by omega) (.slice Ao3 x3_1.length co3) x3_1 x4_1 [.int .u64 x4_1] (fun _ => True) (fun _ => False) rfl rfl ?aP (fun _ hk => hk.elim) ?aF ?aO ?aB ?aS ?aL ?_; (case aP => exact rfl); (case aB => exact SQ.bw); (case aF => exact (fun _ _ => trivial)); (case aO => exact (by (with_reducible repeat (first | apply Kd.R_alloc | apply Kd.R_drewN | apply Kd.R_drew)); exact HO_3.out)); (case aS => exact (wZ SQ.bw)); (case aL => have := LMc9.out; omega); intro v121 w10 ho hb hg hat; rw [← Ny120.out] at ho; have HO122 := A0_.mk (ho); replace HB := A0_.mk (hb); clear HO_3; clear ho hb hg hat))
        go_roundg k2
        case measure => have := HK1.out; have := HK2.out; omega
        case rel => exact ⟨(y120), (IntKind.u64.wrap (x4_1 + 1)), (by first | rfl | (simp; done) | (simp [*]; done)), H', ⟨by have := HK1.out; have := HK2.out; omega⟩, ⟨by (with_reducible repeat (first | apply Kd.R_alloc | apply Kd.R_drewN | apply Kd.R_drew)); exact HO122.out⟩, ⟨SQ.bw⟩⟩
       ·replace c8 := Bool.eq_false_iff.mpr c8
        subst c8
        rw [if_neg (show ¬ (false = true) by decide)] at H
        have H' := A0_.mk H
        clear H
        go_wp2
        go_roundg k2
        case measure => have := HK1.out; have := HK2.out; omega
        case rel => exact ⟨(x3_1), (IntKind.u64.wrap (x4_1 + 1)), (by first | rfl | (simp; done) | (simp [*]; done)), H', ⟨by have := HK1.out; have := HK2.out; omega⟩, ⟨by (with_reducible repeat (first | apply Kd.R_alloc | apply Kd.R_drewN | apply Kd.R_drew)); exact HO_3.out⟩, ⟨SQ.bw⟩⟩
   ·rw [if_neg c2] at H
    have c2b0 : decide ((x3_1.length : Int) < a0) = false := decide_eq_false c2
    clear c2
    obtain rfl := Option.some.inj H
    obtain ⟨Ao11, co11, eo11⟩ := Kd.R_slice HO_3.out
    subst eo11
    go_wp2
    go_ret
    exact ⟨_, SQ.er, by (with_reducible repeat (first | apply Kd.R_alloc | apply Kd.R_drewN | apply Kd.R_drew)); exact HO_3.out, SQ.bw⟩

/-! ### r4times: function 69 -/
def r4times.f (a0 : Int) (a1 : Int) : Option (Int × Int) := some (IntKind.u64.wrap ((IntKind.u64.wrap ((IntKind.u64.wrap ((IntKind.u64.wrap ((a0 / 4294967296) * (a1 / 4294967296))) + ((IntKind.u64.wrap ((Go.bits .and .u64 a0 4294967295) * (a1 / 4294967296))) / 4294967296))) + ((IntKind.u64.wrap ((a0 / 4294967296) * (Go.bits .and .u64 a1 4294967295))) / 4294967296))) + ((IntKind.u64.wrap ((IntKind.u64.wrap (((IntKind.u64.wrap ((Go.bits .and .u64 a0 4294967295) * (Go.bits .and .u64 a1 4294967295))) / 4294967296) + (Go.bits .and .u64 (IntKind.u64.wrap ((Go.bits .and .u64 a0 4294967295) * (a1 / 4294967296))) 4294967295))) + (Go.bits .and .u64 (IntKind.u64.wrap ((a0 / 4294967296) * (Go.bits .and .u64 a1 4294967295))) 4294967295))) / 4294967296)), Go.bits .or .u64 (Go.bits .and .u64 (IntKind.u64.wrap ((Go.bits .and .u64 a0 4294967295) * (Go.bits .and .u64 a1 4294967295))) 4294967295) (IntKind.u64.wrap ((IntKind.u64.wrap ((IntKind.u64.wrap (((IntKind.u64.wrap ((Go.bits .and .u64 a0 4294967295) * (Go.bits .and .u64 a1 4294967295))) / 4294967296) + (Go.bits .and .u64 (IntKind.u64.wrap ((Go.bits .and .u64 a0 4294967295) * (a1 / 4294967296))) 4294967295))) + (Go.bits .and .u64 (IntKind.u64.wrap ((a0 / 4294967296) * (Go.bits .and .u64 a1 4294967295))) 4294967295))) * 4294967296)))
/-! ### r4square: function 62 -/
def r4square.l0 : Nat → Int → Int → Int → Option (Int)
 | 0, _, _, _ => none
 | k + 1, x0, x3, x4 => if x4 ≥ 0 then (if 0 ≤ (IntKind.u64.wrap (x4)) then ((r4times.f (Go.bits .or .u64 x3 (shl .u64 1 (IntKind.u64.wrap (x4)))) (Go.bits .or .u64 x3 (shl .u64 1 (IntKind.u64.wrap (x4))))).bind fun bt123 => (if bt123.1 < x0 then (r4square.l0 k x0 (Go.bits .or .u64 x3 (shl .u64 1 (IntKind.u64.wrap (x4)))) (wrap64 (x4 - 1))) else (if bt123.1 = x0 then (if bt123.2 = 0 then (r4square.l0 k x0 (Go.bits .or .u64 x3 (shl .u64 1 (IntKind.u64.wrap (x4)))) (wrap64 (x4 - 1))) else (r4square.l0 k x0 x3 (wrap64 (x4 - 1)))) else (r4square.l0 k x0 x3 (wrap64 (x4 - 1)))))) else (none)) else (some ((x3) % 4294967296))
def r4square.f (k : Nat) (a0 : Int) : Option (Int) := r4square.l0 k a0 0 36
-- NOT PRINTED: function 49 (r4Start)

end Go.Proofs.YtklakmooaffjpaaDoor.PDgs
end

section
-- Written by a program of this session for this seat. Not trusted: Lean checks it.
namespace Go.Proofs.YtklakmooaffjpaaDoor.PDgs
open Go.RowKit Go.Proofs.YtklakmooaffjpaaDoorW.PrintWords Go.Proofs.YtklakmooaffjpaaDoorW.PrintLast Go.Proofs.YtklakmooaffjpaaDoorW.PrintMore
attribute [local go_sem] max2_int min2_int max_two min_two max_three min_three max_four min_four   -- for this text's walks alone
set_option linter.unusedVariables false
set_option linter.unusedSimpArgs false
open Go.Proofs.YtklakmooaffjpaaDoor.HW

/-! ### r4cube: function 63 -/
def r4cube.l0 : Nat → Int → Int → Int → Option (Int)
 | 0, _, _, _ => none
 | k + 1, x0, x3, x4 => if x4 ≥ 0 then (if 0 ≤ (IntKind.u64.wrap (x4)) then ((r4times.f (Go.bits .or .u64 x3 (shl .u64 1 (IntKind.u64.wrap (x4)))) (Go.bits .or .u64 x3 (shl .u64 1 (IntKind.u64.wrap (x4))))).bind fun bt125 => ((r4times.f bt125.2 (Go.bits .or .u64 x3 (shl .u64 1 (IntKind.u64.wrap (x4))))).bind fun bt127 => ((r4times.f bt125.1 (Go.bits .or .u64 x3 (shl .u64 1 (IntKind.u64.wrap (x4))))).bind fun bt129 => (if (IntKind.u64.wrap (bt127.1 + bt129.2)) < (IntKind.u64.wrap (x0 * 4294967296)) then (r4cube.l0 k x0 (Go.bits .or .u64 x3 (shl .u64 1 (IntKind.u64.wrap (x4)))) (wrap64 (x4 - 1))) else (if (IntKind.u64.wrap (bt127.1 + bt129.2)) = (IntKind.u64.wrap (x0 * 4294967296)) then (if bt127.2 = 0 then (r4cube.l0 k x0 (Go.bits .or .u64 x3 (shl .u64 1 (IntKind.u64.wrap (x4)))) (wrap64 (x4 - 1))) else (r4cube.l0 k x0 x3 (wrap64 (x4 - 1)))) else (r4cube.l0 k x0 x3 (wrap64 (x4 - 1)))))))) else (none)) else (some ((x3) % 4294967296))
def r4cube.f (k : Nat) (a0 : Int) : Option (Int) := r4cube.l0 k a0 0 35
-- NOT PRINTED: function 50 (r4Constants)

-- NOT PRINTED: function 31 (r4Of)

end Go.Proofs.YtklakmooaffjpaaDoor.PDgs
end

section
-- Written by a program of this session for this seat. Not trusted: Lean checks it.
namespace Go.Proofs.YtklakmooaffjpaaDoor.PDgs
open Go.RowKit Go.Proofs.YtklakmooaffjpaaDoorW.PrintWords Go.Proofs.YtklakmooaffjpaaDoorW.PrintLast Go.Proofs.YtklakmooaffjpaaDoorW.PrintMore
attribute [local go_sem] max2_int min2_int max_two min_two max_three min_three max_four min_four   -- for this text's walks alone
set_option linter.unusedVariables false
set_option linter.unusedSimpArgs false
open Go.Proofs.YtklakmooaffjpaaDoor.HW

end Go.Proofs.YtklakmooaffjpaaDoor.PDgs
end

section
/-
  Numbers as bytes, the greatest first.
-/
namespace Go.Proofs.YtklakmooaffjpaaDoor.Dig
/-- The last n bytes of a number. -/
def dg : Nat → Nat → List Int
  | 0, _ => []
  | n + 1, v => dg n (v / 256) ++ [((v % 256 : Nat) : Int)]
theorem dg_len (n v : Nat) : (dg n v).length = n := by
  induction n generalizing v with
  | zero => rfl
  | succ n ih => simp [dg, ih]
theorem dg_range (n v : Nat) : ∀ x ∈ dg n v, 0 ≤ x ∧ x < 256 := by
  induction n generalizing v with
  | zero => intro x h; cases h
  | succ n ih =>
    intro x h
    rw [dg, List.mem_append] at h
    rcases h with h | h
    · exact ih _ x h
    · simp at h; subst h; omega
end Go.Proofs.YtklakmooaffjpaaDoor.Dig
end
