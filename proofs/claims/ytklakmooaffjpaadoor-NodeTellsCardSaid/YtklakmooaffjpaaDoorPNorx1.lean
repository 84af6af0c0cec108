-- Written by a program of this session for this seat. Not trusted: Lean checks it.
import Derived.Test.YtklakmooaffjpaaDoorSQ
import Derived.Test.YtklakmooaffjpaaDoorPNorx0
namespace Go.Proofs.YtklakmooaffjpaaDoor.PNor
open Go.RowKit Go.Proofs.YtklakmooaffjpaaDoorW.PrintWords Go.Proofs.YtklakmooaffjpaaDoorW.PrintLast Go.Proofs.YtklakmooaffjpaaDoorW.PrintMore
attribute [local go_sem] max2_int min2_int max_two min_two max_three min_three max_four min_four   -- for this text's walks alone
set_option linter.unusedVariables false
set_option linter.unusedSimpArgs false
open Go.Proofs.YtklakmooaffjpaaDoor.HW

/-- A state of type 74 at block g of W; what its slices lead to came in by w0. -/
def IsS74 (w0 W : World) (g : Nat) (f0 : ByteArray) : Prop := W.heap[g]? = some (.cells #[.string f0] 74 (0, 0)) ∧ w0.heap.size ≤ g
theorem IsS74.grown {w0 W : World} {g : Nat} {f0 : ByteArray} {W1 : World} {row : Option Nat} (h : IsS74 w0 W g f0) (hw : W.grownBy W1 row) (hne : some g ≠ row) : IsS74 w0 W1 g f0 := by
 obtain ⟨hb, hg⟩ := h
 exact ⟨blk_grown hb hw hne, hg⟩
theorem IsS74.kept {w0 W : World} {g : Nat} {f0 : ByteArray} {W1 : World} {S : Nat → Prop} (h : IsS74 w0 W g f0) (hk : Kept W W1 S) (hne : ¬ S g) : IsS74 w0 W1 g f0 := by
 obtain ⟨hb, hg⟩ := h
 exact ⟨blk_kept hb hk hne, hg⟩
theorem IsS74.below {w0 W : World} {g : Nat} {f0 : ByteArray} {W1 : World} (h : IsS74 w0 W g f0) (hw : Below W.heap.size W W1) : IsS74 w0 W1 g f0 := h.grown (grown_of_below hw none) (by simp)
theorem IsS74.alloc {w0 W : World} {g : Nat} {f0 : ByteArray} (h : IsS74 w0 W g f0) (o : Obj) : IsS74 w0 (W.alloc o) g f0 := h.below (wA (Below.refl _ _) o)
theorem IsS74.drewN {w0 W : World} {g : Nat} {f0 : ByteArray} (h : IsS74 w0 W g f0) (m : Nat) : IsS74 w0 (W.drewN m) g f0 := h
theorem IsS74.drew {w0 W : World} {g : Nat} {f0 : ByteArray} (h : IsS74 w0 W g f0) : IsS74 w0 W.drew g f0 := h
theorem IsS74.at_ {w0 W : World} {g : Nat} {f0 : ByteArray} {w' : World} {m : Nat} (hq : W.drewN m = w') (h : IsS74 w0 W g f0) : IsS74 w0 w' g f0 := by subst hq; exact IsS74.drewN h m
theorem IsS74.apart {w0 W : World} {g : Nat} {f0 : ByteArray} {α : Type} {d : Kd α} {e : Nat} {base : Nat} {ok : Nat → Prop} {v : Value} {xs : List α} (h : IsS74 w0 W g f0) (ho : d.R e W base ok v xs) (ht : ∀ q, q ∈ e :: d.E → q ≠ 74) : d.R e W base (fun k => ok k ∧ k ≠ g) v xs := by
 obtain ⟨hb, hg⟩ := h
 exact Kd.R_types ho hb ht
theorem IsS74.own_ne {w0 W : World} {g : Nat} {f0 : ByteArray} {α : Type} {d : Kd α} {e : Nat} {base : Nat} {ok : Nat → Prop} {v : Value} {xs : List α} (h : IsS74 w0 W g f0) (ho : d.R e W base ok v xs) (ht : e ≠ 74) : some g ≠ v.ownBlock := by
 obtain ⟨hb, hg⟩ := h
 exact Kd.R_ne ho hb ht
theorem IsS74.ge {w0 W : World} {g : Nat} {f0 : ByteArray} (h : IsS74 w0 W g f0) : w0.heap.size ≤ g := by
 obtain ⟨hb, hg⟩ := h
 exact hg
theorem IsS74.far {w0 W : World} {g : Nat} {f0 : ByteArray} {p : Addr} (h : IsS74 w0 W g f0) (hne : g ≠ p.block) (u : Value) : IsS74 w0 (W.setCell p u) g f0 := by
 obtain ⟨hb, hg⟩ := h
 exact ⟨bR hb hne u, hg⟩
theorem cellS74_0 {W : World} {g : Nat} {f0 : ByteArray} (h : W.heap[g]? = some (.cells #[.string f0] 74 (0, 0))) : W.cell? ⟨g, 0, none⟩ = some (.string f0) := (bC h 0).trans rfl
theorem IsS74.set_0 {w0 W : World} {g : Nat} {f0 : ByteArray} (h : IsS74 w0 W g f0) (x : ByteArray) : IsS74 w0 (W.setCell ⟨g, 0, none⟩ (.string x)) g x := by
 obtain ⟨hb, hg⟩ := h
 exact ⟨by simpa using blk_set hb 0 (.string x), hg⟩
/-! ### n9take: function 41 -/
def n9take.f (s0_0 : ByteArray) (a1 : Int) : Option (ByteArray × ByteArray) := if 0 ≤ (mn a1 (s0_0.size : Int)) then (if (mn a1 (s0_0.size : Int)) ≤ (s0_0.size : Int) then (some (s0_0.extract 0 ((mn a1 (s0_0.size : Int)) : Int).toNat, s0_0.extract ((mn a1 (s0_0.size : Int)) : Int).toNat s0_0.size)) else (none)) else (none)
set_option maxHeartbeats 8000000 in
set_option maxRecDepth 100000 in
theorem n9take.calls (g : Nat) (s0_0 : ByteArray) (a1 : Int) (r1 : ByteArray) (r2 : ByteArray) (w0 w : World) (hI : IsS74 w0 w g s0_0) (hB : Below w0.heap.size w0 w) (h : n9take.f s0_0 a1 = some (r1, r2)) :
  Calls Tryd.prog 41 #[.pointer (some ⟨g, 0, none⟩), .int .i64 a1] w fun e w' => e = .returned (.string r1) ∧ IsS74 w0 w' g r2 ∧ Below w0.heap.size w0 w' ∧ KeepBut w w' g none := by
 have HI0 := A0_.mk hI
 have HK := A0_.mk (KeepBut.refl w g none)
 have HL := A0_.mk hB.size
 clear hI
 have HW0 := A0_.mk hB.size
 have HB := A0_.mk hB
 clear hB
 have H : (if 0 ≤ (mn a1 (s0_0.size : Int)) then (if (mn a1 (s0_0.size : Int)) ≤ (s0_0.size : Int) then (some (s0_0.extract 0 ((mn a1 (s0_0.size : Int)) : Int).toNat, s0_0.extract ((mn a1 (s0_0.size : Int)) : Int).toNat s0_0.size)) else (none)) else (none)) = some (r1, r2) := h
 clear h
 obtain ⟨ji3, hji3⟩ : ∃ j_ : Int, (mn a1 (s0_0.size : Int)) = j_ := ⟨_, rfl⟩
 replace H : (if 0 ≤ (ji3) then (if (ji3) ≤ (s0_0.size : Int) then (some (s0_0.extract 0 ((ji3) : Int).toNat, s0_0.extract ((ji3) : Int).toNat s0_0.size)) else (none)) else (none)) = some (r1, r2) := by first | (rw [hji3] at H; exact H) | (simp only [hji3] at H ⊢; exact H)
 have hji3_ : (if (s0_0.size : Int) < a1 then (s0_0.size : Int) else a1) = ji3 := hji3
 by_cases c4 : 0 ≤ (ji3)
 rotate_left
 ·rw [if_neg c4] at H
  exact absurd H (by simp)
 rw [if_pos c4] at H
 have c4b0 := eq_true c4
 have c4b1 : decide (0 ≤ (ji3)) = true := decide_eq_true c4
 clear c4
 by_cases c5 : (ji3) ≤ (s0_0.size : Int)
 rotate_left
 ·rw [if_neg c5] at H
  exact absurd H (by simp)
 rw [if_pos c5] at H
 have c5b0 := eq_true c5
 have c5b1 : decide ((ji3) ≤ (s0_0.size : Int)) = true := decide_eq_true c5
 clear c5
 have c6b0 := eq_true (of_decide_eq_true (by first | (with_reducible assumption) | assumption | (rw [← hji3]; assumption)) : 0 ≤ (ji3))
 have c7b0 := eq_true (of_decide_eq_true (by first | (with_reducible assumption) | assumption | (rw [← hji3]; assumption)) : (ji3) ≤ (s0_0.size : Int))
 simp only [Option.some.injEq, Prod.mk.injEq] at H
 obtain ⟨rfl, rfl⟩ := H
 obtain ⟨HGz8, hgz8⟩ := HI0.out
 have hcz8_0 := cellS74_0 HGz8
 have hfz8_0 := bF HGz8 0
 clear HGz8 hgz8
 go_enter Tryd.func41, Tryd.ntmps41
 go_wp2
 go_ret
 exact ⟨by first | rfl | (simp [errW_none, errW_some] <;> rfl) | (simp only [← hji3]; first | rfl | (simp [errW_none, errW_some] <;> rfl)) | (simp [*, errW_none, errW_some] <;> rfl), by repeat (first | (with_reducible first | exact HI0.out | apply IsS74.alloc | apply IsS74.drewN | apply IsS74.drew | apply IsS74.set_0) | exact HI0.out), by repeat (first | (with_reducible first | exact HB.out | apply wA | apply pN | apply wD | refine wS ?_ (IsS74.ge HI0.out)) | exact HB.out), by repeat (first | (with_reducible first | exact HK.out | apply KeepBut.set_ | apply keep_drewN | apply keep_drew | apply keep_alloc) | exact HK.out)⟩

/-! ### n9number: function 39 -/
def n9number.f (s0_0 : ByteArray) : Option (Int × ByteArray) := (n9take.f s0_0 1).bind fun bt101 => (if bt101.1.toList = ([] : List UInt8) then (some (0, bt101.2)) else (if 0 < (bt101.1.size : Int) then (some (wrap64 (bt bt101.1 0), bt101.2)) else (none)))
set_option maxHeartbeats 8000000 in
set_option maxRecDepth 100000 in
theorem n9number.calls (g : Nat) (s0_0 : ByteArray) (r1 : Int) (r2 : ByteArray) (w0 w : World) (hI : IsS74 w0 w g s0_0) (hB : Below w0.heap.size w0 w) (h : n9number.f s0_0 = some (r1, r2)) :
  Calls Tryd.prog 39 #[.pointer (some ⟨g, 0, none⟩)] w fun e w' => e = .returned (.int .i64 r1) ∧ IsS74 w0 w' g r2 ∧ Below w0.heap.size w0 w' ∧ KeepBut w w' g none := by
 have HI0 := A0_.mk hI
 have HK := A0_.mk (KeepBut.refl w g none)
 have HL := A0_.mk hB.size
 clear hI
 have HW0 := A0_.mk hB.size
 have HB := A0_.mk hB
 clear hB
 have H : ((n9take.f s0_0 1).bind fun bt101 => (if bt101.1.toList = ([] : List UInt8) then (some (0, bt101.2)) else (if 0 < (bt101.1.size : Int) then (some (wrap64 (bt bt101.1 0), bt101.2)) else (none)))) = some (r1, r2) := h
 clear h
 replace H := Option.bind_eq_some_iff.mp H
 obtain ⟨⟨t101, t102⟩, A20, H⟩ := H
 try dsimp only at H
 have A2 := A0_.mk A20
 clear A20
 by_cases c3 : t101.toList = ([] : List UInt8)
 ·rw [if_pos c3] at H
  have c3b0 : (t101.toList == ([] : List UInt8)) = true := beq_iff_eq.mpr c3
  have c3b1 : (t101.toList != ([] : List UInt8)) = false := bne_eq_false_iff_eq.mpr c3
  clear c3
  simp only [Option.some.injEq, Prod.mk.injEq] at H
  obtain ⟨rfl, rfl⟩ := H
  go_enter Tryd.func39, Tryd.ntmps39
  go_wp2_with (first | ((with_reducible refine gC (f := 41) rfl ?_); refine gL (some 5) rfl rfl Tryd.func41 (by kernel_rfl) rfl #[.pointer (some ⟨g, 0, none⟩), .int .i64 1] rfl SQ.sm ?_; (with_reducible refine (n9take.calls g s0_0 1 t101 t102 w0 _ ?side1 ?side2 A2.out).mono ?_); (case side1 => repeat (first | (with_reducible first | exact HI0.out | apply IsS74.alloc | apply IsS74.drewN | apply IsS74.drew | apply IsS74.set_0) | exact HI0.out)); (case side2 => repeat (first | (with_reducible first | exact HB.out | apply wA | apply pN | apply wD | refine wS ?_ (IsS74.ge HI0.out)) | exact HB.out)); rintro e w4 ⟨rfl, hi, hb, hk⟩; refine ⟨_, rfl, ?_⟩; replace HK := A0_.mk (KeepBut.trans (by repeat (first | (with_reducible first | exact HK.out | apply KeepBut.set_ | apply keep_drewN | apply keep_drew | apply keep_alloc) | exact HK.out)) hk (.inl rfl)); replace HB := A0_.mk (hb); replace HI0 := A0_.mk (hi); (try clear hb); (try clear hb2); (try clear hk); (try clear hi)))
  go_ret
  exact ⟨SQ.er, by repeat (first | (with_reducible first | exact HI0.out | apply IsS74.alloc | apply IsS74.drewN | apply IsS74.drew | apply IsS74.set_0) | exact HI0.out), by repeat (first | (with_reducible first | exact HB.out | apply wA | apply pN | apply wD | refine wS ?_ (IsS74.ge HI0.out)) | exact HB.out), by repeat (first | (with_reducible first | exact HK.out | apply KeepBut.set_ | apply keep_drewN | apply keep_drew | apply keep_alloc) | exact HK.out)⟩
 ·rw [if_neg c3] at H
  have c3b0 : (t101.toList == ([] : List UInt8)) = false := beq_eq_false_iff_ne.mpr c3
  have c3b1 : (t101.toList != ([] : List UInt8)) = true := bne_iff_ne.mpr c3
  by_cases c5 : 0 < (t101.size : Int)
  rotate_left
  ·rw [if_neg c5] at H
   exact absurd H (by simp)
  rw [if_pos c5] at H
  have c5b0 : decide (0 < (t101.size : Int)) = true := decide_eq_true c5
  have c5b1 : decide (0 < t101.size) = true := decide_eq_true (by omega)
  clear c5
  simp only [Option.some.injEq, Prod.mk.injEq] at H
  obtain ⟨rfl, rfl⟩ := H
  go_enter Tryd.func39, Tryd.ntmps39
  go_wp2_with (first | ((with_reducible refine gC (f := 41) rfl ?_); refine gL (some 5) rfl rfl Tryd.func41 (by kernel_rfl) rfl #[.pointer (some ⟨g, 0, none⟩), .int .i64 1] rfl SQ.sm ?_; (with_reducible refine (n9take.calls g s0_0 1 t101 t102 w0 _ ?side1 ?side2 A2.out).mono ?_); (case side1 => repeat (first | (with_reducible first | exact HI0.out | apply IsS74.alloc | apply IsS74.drewN | apply IsS74.drew | apply IsS74.set_0) | exact HI0.out)); (case side2 => repeat (first | (with_reducible first | exact HB.out | apply wA | apply pN | apply wD | refine wS ?_ (IsS74.ge HI0.out)) | exact HB.out)); rintro e w7 ⟨rfl, hi, hb, hk⟩; refine ⟨_, rfl, ?_⟩; replace HK := A0_.mk (KeepBut.trans (by repeat (first | (with_reducible first | exact HK.out | apply KeepBut.set_ | apply keep_drewN | apply keep_drew | apply keep_alloc) | exact HK.out)) hk (.inl rfl)); replace HB := A0_.mk (hb); replace HI0 := A0_.mk (hi); (try clear hb); (try clear hb2); (try clear hk); (try clear hi); have p6 : 0 ≤ (0 : Int) := (by omega); have q6 : 0 < t101.size := (by have : (0 : Int) < (t101.size : Int) := SQ.da; omega); have hx6 : ∀ h : 0 < t101.size, ((t101[0]'h).toNat : Int) = bt t101 0 := bt_at t101 0; clear p6; have qi6 : (0 < (t101.size : Int)) = True := eq_true (SQ.da); replace q6 := eq_true q6))
  go_ret
  exact ⟨SQ.er, by repeat (first | (with_reducible first | exact HI0.out | apply IsS74.alloc | apply IsS74.drewN | apply IsS74.drew | apply IsS74.set_0) | exact HI0.out), by repeat (first | (with_reducible first | exact HB.out | apply wA | apply pN | apply wD | refine wS ?_ (IsS74.ge HI0.out)) | exact HB.out), by repeat (first | (with_reducible first | exact HK.out | apply KeepBut.set_ | apply keep_drewN | apply keep_drew | apply keep_alloc) | exact HK.out)⟩

/-! ### nibble_Of: function 67 -/
def nibble_Of.l0 : Nat → ByteArray → List Int → Int → Int → Option (ByteArray)
 | 0, _, _, _, _ => none
 | k + 1, x0, x3, x10, x11 => if x11 < x10 then (if 0 ≤ x11 then (if x11 < (x0.size : Int) then ((some (([(bt x0 x11) / 16, Go.bits .and .u8 (bt x0 x11) 15] : List Int) : List Int)).bind fun y106 => (if x3.length + y106.length < 140737488355328 then (nibble_Of.l0 k x0 (x3 ++ y106) x10 (wrap64 (x11 + 1))) else (none))) else (none)) else (none)) else (some (strOfNums x3))
def nibble_Of.f (k : Nat) (a0 : ByteArray) : Option (ByteArray) := if 0 ≤ (wrap64 (2 * (a0.size : Int))) then (if (wrap64 (2 * (a0.size : Int))) ≤ 281474976710656 then (nibble_Of.l0 k a0 (List.replicate 0 0) (a0.size : Int) 0) else (none)) else (none)
def nibble_Of.T5 : Bool × List (List Nat × List Nat) := (true, [([], []), ([], []), ([], []), ([1, 2], [1, 2]), ([3], [3]), ([], []), ([], []), ([5, 6], [5, 6]), ([7], [7]), ([4, 8], [4, 8]), ([0, 9], [0, 9]), ([10, 10, 0, 1, 2, 3, 4, 5, 6, 7, 8, 9, 10], [0, 10])])
def nibble_Of.B5 : List Nat := [0, 0, 0, 6, 14, 0, 0, 96, 224, 510, 1023, 2047]
theorem nibble_Of.tab5 : rtab .any (opsOf Tryd.f67 5) = nibble_Of.T5 := by kernel_rfl
theorem nibble_Of.bits5 : waitsOk nibble_Of.T5.2 nibble_Of.B5 = true := by kernel_rfl
set_option maxHeartbeats 8000000 in
set_option maxRecDepth 100000 in
theorem nibble_Of.calls (k : Nat) (a0 : ByteArray) (r : ByteArray) (w : World) (h : nibble_Of.f k a0 = some r) :
  Calls Tryd.prog 67 #[.string a0] w fun e w' => e = .returned (.string r) ∧ Below w.heap.size w w' := by
 have HB := A0_.mk (Below.refl w.heap.size w)
 have H : (if 0 ≤ (wrap64 (2 * (a0.size : Int))) then (if (wrap64 (2 * (a0.size : Int))) ≤ 281474976710656 then (nibble_Of.l0 k a0 (List.replicate 0 0) (a0.size : Int) 0) else (none)) else (none)) = some r := h
 clear h
 obtain ⟨ji2, hji2⟩ : ∃ j_ : Int, (wrap64 (2 * (a0.size : Int))) = j_ := ⟨_, rfl⟩
 replace H : (if 0 ≤ (ji2) then (if (ji2) ≤ 281474976710656 then (nibble_Of.l0 k a0 (List.replicate 0 0) (a0.size : Int) 0) else (none)) else (none)) = some r := by first | (rw [hji2] at H; exact H) | (simp only [hji2] at H ⊢; exact H)
 have hji2w : (IntKind.i64.wrap (2 * (a0.size : Int))) = ji2 := (i64_w _).trans hji2
 by_cases c3 : 0 ≤ (ji2)
 rotate_left
 ·rw [if_neg c3] at H
  exact absurd H (by simp)
 rw [if_pos c3] at H
 have c3b0 := eq_true c3
 have c3b1 : decide (0 ≤ (ji2)) = true := decide_eq_true c3
 clear c3
 by_cases c4 : (ji2) ≤ 281474976710656
 rotate_left
 ·rw [if_neg c4] at H
  exact absurd H (by simp)
 rw [if_pos c4] at H
 have c4b0 := eq_true c4
 have c4b1 : decide ((ji2) ≤ 281474976710656) = true := decide_eq_true c4
 clear c4
 obtain ⟨y103, hy103⟩ : ∃ y_ : List Int, y_ = (List.replicate 0 0) := ⟨_, rfl⟩
 replace H : (nibble_Of.l0 k a0 y103 (a0.size : Int) 0) = some r := by first | (rw [hy103]; with_reducible exact H) | (have H2_ := (Option.bind_some _ _).symm.trans H; rw [hy103]; with_reducible exact H2_) | (have H2_ := (Option.bind_some _ _).symm.trans H; with_reducible exact H2_) | with_reducible exact H | (rw [hy103]; exact H) | exact H
 have Ny103 := A0_.mk hy103
 clear hy103
 have H' := A0_.mk H
 clear H
 go_enter Tryd.func67, Tryd.ntmps67
 go_wp2_with (first | ((with_reducible refine gD (N := 8) rfl ?_); refine Kd.R_makecap (Kd.int .u8) _ 5 rfl (N := 8) rfl 42 _ _ rfl 0 ji2 rfl rfl Tryd.underlying42 (.int .u8 0) 1 info5 rfl (by decide) (by omega) 0 (ok := fun _ => True) (okp := fun _ => True) rfl (fun _ hk => hk) trivial (by omega) (SQ.da) (le_cap_ (by_ := 1) (K := 281474976710656) (SQ.da) (by decide)) (Below.refl _ _) (Nat.le_refl _) ?_; intro v104 w5 ho6 hb hg_ hnew_; clear hg_ hnew_; (first | rw [← Ny103.out] at ho6 | (simp only [Int.reduceToNat] at ho6; rw [← Ny103.out] at ho6)); have HO105 := A0_.mk (Kd.R_lower ho6 (wZ SQ.bw)); replace HB := A0_.mk (wT SQ.bw hb); clear hb ho6))
 go_loopg [3, 11] k (fun kq v3 v11 w' => ∃ (x3_1 : List Int) (x11_1 : Int), v11 = .int .i64 x11_1 ∧ A0_ (nibble_Of.l0 kq a0 x3_1 (a0.size : Int) x11_1 = some r) ∧ A0_ (kq ≤ k) ∧ A0_ (Kd.R (Kd.int .u8) 5 w' w.heap.size (fun _ => True) v3 x3_1) ∧ A0_ (Below w.heap.size w w'))
 case atStart => exact ⟨(y103), (0), (by first | rfl | (simp; done) | (simp [*]; done)), H', ⟨Nat.le_refl _⟩, ⟨by (with_reducible repeat (first | apply Kd.R_alloc | apply Kd.R_drewN | apply Kd.R_drew)); exact HO105.out⟩, ⟨SQ.bw⟩⟩
 case round =>
  clear H'
  try clear p2
  try clear c3
  try clear c3b0
  try clear c3b1
  try clear c4
  try clear c4b0
  try clear c4b1
  try clear c6
  try clear p6
  obtain ⟨x3_1, x11_1, rfl, HA, HK1, HO_3, HB⟩ := hrel
  cases gk with
  | zero => exact absurd HA.out (by simp [nibble_Of.l0])
  | succ k1 =>
   have H := HA.out
   clear HA
   simp only [nibble_Of.l0] at H
   by_cases c7 : x11_1 < (a0.size : Int)
   ·rw [if_pos c7] at H
    have c7b0 : decide (x11_1 < (a0.size : Int)) = true := decide_eq_true c7
    clear c7
    by_cases c8 : 0 ≤ x11_1
    rotate_left
    ·rw [if_neg c8] at H
     exact absurd H (by simp)
    rw [if_pos c8] at H
    have c8b0 : decide (0 ≤ x11_1) = true := decide_eq_true c8
    clear c8
    by_cases c9 : x11_1 < (a0.size : Int)
    rotate_left
    ·rw [if_neg c9] at H
     exact absurd H (by simp)
    rw [if_pos c9] at H
    have c9b0 : decide (x11_1 < (a0.size : Int)) = true := decide_eq_true c9
    clear c9
    obtain ⟨y106, hy106⟩ : ∃ y_ : List Int, y_ = (([(bt a0 x11_1) / 16, Go.bits .and .u8 (bt a0 x11_1) 15] : List Int)) := ⟨_, rfl⟩
    replace H : (if x3_1.length + y106.length < 140737488355328 then (nibble_Of.l0 k1 a0 (x3_1 ++ y106) (a0.size : Int) (wrap64 (x11_1 + 1))) else (none)) = some r := by first | (rw [hy106]; with_reducible exact H) | (have H2_ := (Option.bind_some _ _).symm.trans H; rw [hy106]; with_reducible exact H2_) | (have H2_ := (Option.bind_some _ _).symm.trans H; with_reducible exact H2_) | with_reducible exact H | (rw [hy106]; exact H) | exact H
    have Ny106 := A0_.mk hy106
    clear hy106
    by_cases c12 : x3_1.length + y106.length < 140737488355328
    rotate_left
    ·rw [if_neg c12] at H
     exact absurd H (by simp)
    rw [if_pos c12] at H
    have LMc12 := A0_.mk c12
    clear c12
    obtain ⟨y109, hy109⟩ : ∃ y_ : List Int, y_ = (x3_1 ++ y106) := ⟨_, rfl⟩
    replace H : (nibble_Of.l0 k1 a0 y109 (a0.size : Int) (wrap64 (x11_1 + 1))) = some r := by first | (rw [hy109]; with_reducible exact H) | (have H2_ := (Option.bind_some _ _).symm.trans H; rw [hy109]; with_reducible exact H2_) | (have H2_ := (Option.bind_some _ _).symm.trans H; with_reducible exact H2_) | with_reducible exact H | (rw [hy109]; exact H) | exact H
    have Ny109 := A0_.mk hy109
    clear hy109
    have H' := A0_.mk H
    clear H
    try go_wp2
    replace HO_3 := A0_.mk (Kd.R_drew HO_3.out)
    replace HB := A0_.mk (wD HB.out)
    have p10 : 0 ≤ (x11_1 : Int) := SQ.da
    have q10 : x11_1 < (a0.size : Int) := SQ.da
    have hx10 := bt_at a0 x11_1
    replace p10 := eq_true p10
    replace q10 := eq_true q10
    have p11 : 0 ≤ (x11_1 : Int) := SQ.da
    have q11 : x11_1 < (a0.size : Int) := SQ.da
    have hx11 := bt_at a0 x11_1
    replace p11 := eq_true p11
    replace q11 := eq_true q11
    refine start_ (n := 12) (S := fun w' => True) (ds := []) #[false, false, false, false, false, false, false, false, false, false, false, false] (by kernel_rfl) rfl rfl trivial (fun hHeld => ?_); refine with_tabW nibble_Of.tab5 nibble_Of.bits5 (fun HT_ HW_ => ?_)
    generalize wr.drew = w13 at HO_3 HB hHeld ⊢
    refine pure_ (i := 0) (N := some 14) (v := ?_) (a' := ?_) #[true, false, false, false, false, false, false, false, false, false, false, false] rfl rfl (any_of HT_.out (by kernel_rfl)) (fun _ _ _ h => h) (Or.inl ⟨by rfl, ?_⟩) ?_ ?_
    rotate_left
    ·intro w'
     go_simp
     with_reducible rfl
    rotate_left
    ·simp only [Act.put, List.setIfInBounds_toArray, List.set_cons_zero, List.set_cons_succ, i64_w, i32_w]
     rfl
    refine pure_ (i := 1) (N := some 15) (v := ?_) (a' := ?_) #[true, true, false, false, false, false, false, false, false, false, false, false] rfl rfl (any_of HT_.out (by kernel_rfl)) (fun _ _ _ h => h) (Or.inl ⟨by rfl, ?_⟩) ?_ ?_
    rotate_left
    ·intro w'
     go_simp
     with_reducible rfl
    rotate_left
    ·simp only [Act.put, List.setIfInBounds_toArray, List.set_cons_zero, List.set_cons_succ, i64_w, i32_w]
     rfl
    refine pure_ (i := 2) (N := some 16) (v := ?_) (a' := ?_) #[true, true, true, false, false, false, false, false, false, false, false, false] rfl rfl (any_of HT_.out (by kernel_rfl)) (fun _ _ _ h => h) (Or.inl ⟨by rfl, ?_⟩) ?_ ?_
    rotate_left
    ·intro w'
     go_simp
     with_reducible rfl
    rotate_left
    ·simp only [Act.put, List.setIfInBounds_toArray, List.set_cons_zero, List.set_cons_succ, i64_w, i32_w]
     rfl
    refine pure_ (i := 5) (N := some 19) (v := ?_) (a' := ?_) #[true, true, true, false, false, true, false, false, false, false, false, false] rfl rfl (any_of HT_.out (by kernel_rfl)) (fun _ _ _ h => h) (Or.inl ⟨by rfl, ?_⟩) ?_ ?_
    rotate_left
    ·intro w'
     go_simp
     with_reducible rfl
    rotate_left
    ·simp only [Act.put, List.setIfInBounds_toArray, List.set_cons_zero, List.set_cons_succ, i64_w, i32_w]
     rfl
    refine pure_ (i := 6) (N := some 20) (v := ?_) (a' := ?_) #[true, true, true, false, false, true, true, false, false, false, false, false] rfl rfl (any_of HT_.out (by kernel_rfl)) (fun _ _ _ h => h) (Or.inl ⟨by rfl, ?_⟩) ?_ ?_
    rotate_left
    ·intro w'
     go_simp
     with_reducible rfl
    rotate_left
    ·simp only [Act.put, List.setIfInBounds_toArray, List.set_cons_zero, List.set_cons_succ, i64_w, i32_w]
     rfl
    refine take_ (i := 3) (N := some 17) (v := ?_) (a' := ?_) #[true, true, true, true, false, true, true, false, false, false, false, false] rfl rfl (take_ofW HT_.out HW_.out (by kernel_rfl)) (fun _ _ _ h => h) (Or.inl ⟨by rfl, ?_⟩) hHeld ?_ ?_
    rotate_left
    ·intro w' _
     go_simp
     with_reducible rfl
    rotate_left
    ·simp only [Act.put, List.setIfInBounds_toArray, List.set_cons_zero, List.set_cons_succ, i64_w, i32_w]
     rfl
    refine pure_ (i := 4) (N := some 18) (v := ?_) (a' := ?_) #[true, true, true, true, true, true, true, false, false, false, false, false] rfl rfl (any_of HT_.out (by kernel_rfl)) (fun _ _ _ h => h) (Or.inl ⟨by rfl, ?_⟩) ?_ ?_
    rotate_left
    ·intro w'
     go_simp
     with_reducible rfl
    rotate_left
    ·simp only [Act.put, List.setIfInBounds_toArray, List.set_cons_zero, List.set_cons_succ, i64_w, i32_w]
     rfl
    refine take_ (i := 7) (N := some 21) (v := ?_) (a' := ?_) #[true, true, true, true, true, true, true, true, false, false, false, false] rfl rfl (take_ofW HT_.out HW_.out (by kernel_rfl)) (fun _ _ _ h => h) (Or.inl ⟨by rfl, ?_⟩) hHeld ?_ ?_
    rotate_left
    ·intro w' _
     go_simp
     with_reducible rfl
    rotate_left
    ·simp only [Act.put, List.setIfInBounds_toArray, List.set_cons_zero, List.set_cons_succ, i64_w, i32_w]
     rfl
    refine pure_ (i := 8) (N := some 22) (v := ?_) (a' := ?_) #[true, true, true, true, true, true, true, true, true, false, false, false] rfl rfl (any_of HT_.out (by kernel_rfl)) (fun _ _ _ h => h) (Or.inl ⟨by rfl, ?_⟩) ?_ ?_
    rotate_left
    ·intro w'
     go_simp
     with_reducible rfl
    rotate_left
    ·simp only [Act.put, List.setIfInBounds_toArray, List.set_cons_zero, List.set_cons_succ, i64_w, i32_w]
     rfl
    refine one_ (i := 9) (N := some 23) #[true, true, true, true, true, true, true, true, true, true, false, false] rfl rfl (one_of HT_.out (by kernel_rfl)) (by decide) (fun K hK => ?_)
    refine Kd.R_lit_step (Kd.int .u8) _ 5 ?hg (N := 23) ?hd (xs := ([(bt a0 x11_1) / 16, Go.bits .and .u8 (bt a0 x11_1) 15] : List Int)) (inner := [.int .u8 ((bt a0 x11_1) / 16), .int .u8 (Go.bits .and .u8 (bt a0 x11_1) 15)]) (ok := fun _ => True) (okp := fun _ => True) ?hr ?hp (fun _ hk => hk) trivial (Below.refl _ _) (Nat.le_refl _) (by simp) ?_; (case hd => rfl); (case hg => rfl); (case hr => first | (go_simp; done) | (go_simp; rfl)); (case hp => exact (Reps.one (show Kd.M (Kd.int .u8) _ _ _ ((bt a0 x11_1) / 16) [.int .u8 ((bt a0 x11_1) / 16)] from rfl) (Reps.one (show Kd.M (Kd.int .u8) _ _ _ (Go.bits .and .u8 (bt a0 x11_1) 15) [.int .u8 (Go.bits .and .u8 (bt a0 x11_1) 15)] from rfl) (Reps.none _ _))))
    intro v107 w14 ho15 hb hg_ hnew_
    clear hg_ hnew_
    (first | rw [← Ny106.out] at ho15 | (simp only [Int.reduceToNat] at ho15; rw [← Ny106.out] at ho15))
    have HO108 := A0_.mk (Kd.R_lower (Kd.R_new' ho15 (Kd.R_lt (by (with_reducible repeat (first | apply Kd.R_alloc | apply Kd.R_drewN | apply Kd.R_drew)); exact HO_3.out))) (wZ SQ.bw))
    replace HO_3 := A0_.mk (Kd.R_elder' (by (with_reducible repeat (first | apply Kd.R_alloc | apply Kd.R_drewN | apply Kd.R_drew)); exact HO_3.out) (Kd.R_base ho15) hb)
    replace HB := A0_.mk (wT SQ.bw hb)
    clear hb ho15
    obtain ⟨Ao17, co17, eo17⟩ := Kd.R_slice HO108.out
    (first | subst eo17 | (injection eo17 with f1_ f2_ f3_; have f4_ := f1_.symm; have f5_ := f3_.symm; clear f1_ f2_ f3_; subst f4_; subst f5_))
    refine hK.out _ _ trivial (fun hHeld => ?_)
    clear hK K
    refine norm_ (a' := ?_) ?_ ?_
    rotate_left
    ·show Act.put _ (some 23) _ = _
     simp only [Act.put, List.setIfInBounds_toArray, List.set_cons_zero, List.set_cons_succ, i64_w, i32_w]
     rfl
    refine one_ (i := 10) (N := some 24) #[true, true, true, true, true, true, true, true, true, true, true, false] rfl rfl (one_of HT_.out (by kernel_rfl)) (by decide) (fun K hK => ?_)
    refine Kd.R_append_rows_step (Kd.int .u8) (w0 := w) w.heap.size (by rfl) (.tmp 14) (.tmp 23) 42 5 (.int .u8 0) 1 rfl Tryd.underlying42 info5 rfl (by decide) (by omega) u3 x3_1 y106 _ _ _ (fun k_ => some k_ ≠ (.slice Ao17 y106.length co17 : Value).ownBlock) (fun _ => False) rfl rfl ?aO ?aR (fun _ _ h => h) (fun _ h => h.elim) ?aF ?aB ?aS ?aL ?_
    (case aR => repeat (first | exact (Kd.R_reads' HO108.out).2.2 | (with_reducible refine Kd.C_alloc ?_ _) | (with_reducible refine Kd.C_drewN ?_ _) | (with_reducible refine Kd.C_drew ?_)))
    (case aB => exact SQ.bw)
    (case aF => exact (fun k_ hk => Kd.fresh' (Kd.R_lt (by (with_reducible repeat (first | apply Kd.R_alloc | apply Kd.R_drewN | apply Kd.R_drew)); exact HO108.out)) k_ hk))
    (case aO => exact (by (with_reducible repeat (first | apply Kd.R_alloc | apply Kd.R_drewN | apply Kd.R_drew)); exact Kd.R_mono HO_3.out (fun _ hk => hk.2)))
    (case aS => exact (wZ SQ.bw))
    (case aL => have := LMc12.out; omega)
    intro v110 w16 ho hb hg hat
    rw [← Ny109.out] at ho
    have HO111 := A0_.mk (ho)
    replace HO108 := A0_.mk (Kd.R_after (ok := (fun _ => True)) (by (with_reducible repeat (first | apply Kd.R_alloc | apply Kd.R_drewN | apply Kd.R_drew)); exact HO108.out) hg hat)
    replace HB := A0_.mk (hb)
    clear HO_3
    clear ho hb hg hat
    refine hK.out _ _ trivial (fun hHeld => ?_)
    clear hK K
    refine norm_ (a' := ?_) ?_ ?_
    rotate_left
    ·show Act.put _ (some 24) _ = _
     simp only [Act.put, List.setIfInBounds_toArray, List.set_cons_zero, List.set_cons_succ, i64_w, i32_w]
     rfl
    refine pure_ (i := 11) (N := some 3) (v := ?_) (a' := ?_) #[true, true, true, true, true, true, true, true, true, true, true, true] rfl rfl (any_of HT_.out (by kernel_rfl)) (fun _ _ _ h => h) (Or.inl ⟨by rfl, ?_⟩) ?_ ?_
    rotate_left
    ·intro w'
     go_simp
     with_reducible rfl
    rotate_left
    ·simp only [Act.put, List.setIfInBounds_toArray, List.set_cons_zero, List.set_cons_succ, i64_w, i32_w]
     rfl
    refine done_ (done_of HT_.out (by kernel_rfl)) ?_
    try go_wp2
    go_roundg k1
    case measure => have := HK1.out; omega
    case rel => exact ⟨(y109), (wrap64 (x11_1 + 1)), (by first | rfl | (simp; done) | (simp [*]; done)), H', ⟨by have := HK1.out; omega⟩, ⟨by (with_reducible repeat (first | apply Kd.R_alloc | apply Kd.R_drewN | apply Kd.R_drew)); exact Kd.R_mono HO111.out (fun _ hk => trivial)⟩, ⟨SQ.bw⟩⟩
   ·rw [if_neg c7] at H
    have c7b0 : decide (x11_1 < (a0.size : Int)) = false := decide_eq_false c7
    clear c7
    obtain rfl := Option.some.inj H
    have hcv18 := own_string (P := Tryd.prog) Tryd.underlying42 Tryd.underlying5 Tryd.underlying9 (Kd.own_of_R HO_3.out)
    go_wp2
    go_ret
    exact ⟨by first | rfl | (simp [errW_none, errW_some] <;> rfl) | (simp only [← hji2]; first | rfl | (simp [errW_none, errW_some] <;> rfl)) | (simp [*, errW_none, errW_some] <;> rfl), SQ.bw⟩

/-! ### nibble_Unpack: function 55 -/
def nibble_Unpack.j0 : Nat → ByteArray → Bool → Option (ByteArray × Int × Bool)
 | 0, _, _ => none
 | k + 1, x0, x14 => if x14 = true then (some ((⟨#[]⟩ : ByteArray), 0, false)) else (if 0 < (x0.size : Int) then (if (wrap64 (1 + (wrap64 (Int.tdiv (wrap64 ((wrap64 (bt x0 0)) + 1)) 2)))) > (x0.size : Int) then (some ((⟨#[]⟩ : ByteArray), 0, false)) else (if 1 ≤ (wrap64 (1 + (wrap64 (Int.tdiv (wrap64 ((wrap64 (bt x0 0)) + 1)) 2)))) then (if (wrap64 (1 + (wrap64 (Int.tdiv (wrap64 ((wrap64 (bt x0 0)) + 1)) 2)))) ≤ (x0.size : Int) then ((nibble_Of.f k (x0.extract 1 ((wrap64 (1 + (wrap64 (Int.tdiv (wrap64 ((wrap64 (bt x0 0)) + 1)) 2)))) : Int).toNat)).bind fun t112 => (if (wrap64 (bt x0 0)) < (t112.size : Int) then (if 0 ≤ (wrap64 (bt x0 0)) then (if (bt t112 (wrap64 (bt x0 0))) = 0 then (if (wrap64 (bt x0 0)) ≤ (t112.size : Int) then (some (t112.extract 0 ((wrap64 (bt x0 0)) : Int).toNat, wrap64 (1 + (wrap64 (Int.tdiv (wrap64 ((wrap64 (bt x0 0)) + 1)) 2))), true)) else (none)) else (some ((⟨#[]⟩ : ByteArray), 0, false))) else (none)) else (if 0 ≤ (wrap64 (bt x0 0)) then (if (wrap64 (bt x0 0)) ≤ (t112.size : Int) then (some (t112.extract 0 ((wrap64 (bt x0 0)) : Int).toNat, wrap64 (1 + (wrap64 (Int.tdiv (wrap64 ((wrap64 (bt x0 0)) + 1)) 2))), true)) else (none)) else (none)))) else (none)) else (none))) else (none))
def nibble_Unpack.f (k : Nat) (a0 : ByteArray) : Option (ByteArray × Int × Bool) := if a0.toList = ([] : List UInt8) then (nibble_Unpack.j0 k a0 true) else (if 0 < (a0.size : Int) then (nibble_Unpack.j0 k a0 (decide ((wrap64 (bt a0 0)) > 16))) else (none))
set_option maxHeartbeats 8000000 in
set_option maxRecDepth 100000 in
theorem nibble_Unpack.calls (k : Nat) (a0 : ByteArray) (r1 : ByteArray) (r2 : Int) (r3 : Bool) (w : World) (h : nibble_Unpack.f k a0 = some (r1, r2, r3)) :
  Calls Tryd.prog 55 #[.string a0] w fun e w' => e = .returned (.tuple #[.string r1, .int .i64 r2, .bool r3]) ∧ Below w.heap.size w w' := by
 have HB := A0_.mk (Below.refl w.heap.size w)
 have H : (if a0.toList = ([] : List UInt8) then (nibble_Unpack.j0 k a0 true) else (if 0 < (a0.size : Int) then (nibble_Unpack.j0 k a0 (decide ((wrap64 (bt a0 0)) > 16))) else (none))) = some (r1, r2, r3) := h
 clear h
 have HC2 := A0_.mk H
 clear H
 go_enter Tryd.func55, Tryd.ntmps55
 go_upto_region 1 with (fail)
 go_cut [14] (fun v14 wc => ∃ (kq : Nat) (x14_1 : Bool), v14 = .bool x14_1 ∧ A0_ (nibble_Unpack.j0 kq a0 x14_1 = some (r1, r2, r3)) ∧ A0_ (kq ≤ k) ∧ A0_ (Below w.heap.size w wc))
 case first =>
  have H := HC2.out
  clear HC2
  by_cases c3 : a0.toList = ([] : List UInt8)
  ·rw [if_pos c3] at H
   have c3b0 : (a0.toList == ([] : List UInt8)) = true := beq_iff_eq.mpr c3
   have c3b1 : (a0.toList != ([] : List UInt8)) = false := bne_eq_false_iff_eq.mpr c3
   clear c3
   (first | rw [c3b0] | (simp only [i64_w, i32_w]; rw [c3b0]) | skip)
   have H' := A0_.mk H
   clear H
   go_wp2
   go_meet
   case rel => exact ⟨_, (true), (by first | rfl | (simp; done) | (simp [*]; done)), H', ⟨by first | omega | exact Nat.le_refl _⟩, ⟨SQ.bw⟩⟩
  ·rw [if_neg c3] at H
   have c3b0 : (a0.toList == ([] : List UInt8)) = false := beq_eq_false_iff_ne.mpr c3
   have c3b1 : (a0.toList != ([] : List UInt8)) = true := bne_iff_ne.mpr c3
   (first | rw [c3b0] | (simp only [i64_w, i32_w]; rw [c3b0]) | skip)
   by_cases c4 : 0 < (a0.size : Int)
   rotate_left
   ·rw [if_neg c4] at H
    exact absurd H (by simp)
   rw [if_pos c4] at H
   have c4b0 : decide (0 < (a0.size : Int)) = true := decide_eq_true c4
   have c4b1 : decide (0 < a0.size) = true := decide_eq_true (by omega)
   clear c4
   have H' := A0_.mk H
   clear H
   have p5 : 0 ≤ (0 : Int) := (by omega)
   have q5 : 0 < a0.size := (by have : (0 : Int) < (a0.size : Int) := SQ.da; omega)
   have hx5 : ∀ h : 0 < a0.size, ((a0[0]'h).toNat : Int) = bt a0 0 := bt_at a0 0
   clear p5
   have qi5 : (0 < (a0.size : Int)) = True := eq_true (SQ.da)
   replace q5 := eq_true q5
   go_wp2
   go_meet
   case rel => exact ⟨_, (decide ((wrap64 (bt a0 0)) > 16)), (by first | rfl | (simp; done) | (simp [*]; done)), H', ⟨by first | omega | exact Nat.le_refl _⟩, ⟨SQ.bw⟩⟩
 case rest =>
  clear HC2
  try clear p2
  try clear c3
  try clear c3b0
  try clear c3b1
  try clear c4
  try clear c4b0
  try clear c4b1
  try clear c5
  try clear p5
  try clear q5
  try clear hx5
  try clear qi5
  try clear p5
  try clear q5
  obtain ⟨kq, x14_1, rfl, HA, HJ1, HB⟩ := hcut
  cases kq with
  | zero => exact absurd HA.out (by simp [nibble_Unpack.j0])
  | succ kj1 =>
   have H := HA.out
   clear HA
   simp only [nibble_Unpack.j0] at H
   by_cases c6 : x14_1 = true
   ·subst c6
    rw [if_pos rfl] at H
    simp only [Option.some.injEq, Prod.mk.injEq] at H
    obtain ⟨rfl, rfl, rfl⟩ := H
    go_wp2
    go_ret3
    exact ⟨SQ.er, SQ.bw⟩
   ·replace c6 := Bool.eq_false_iff.mpr c6
    subst c6
    rw [if_neg (show ¬ (false = true) by decide)] at H
    by_cases c7 : 0 < (a0.size : Int)
    rotate_left
    ·rw [if_neg c7] at H
     exact absurd H (by simp)
    rw [if_pos c7] at H
    have c7b0 : decide (0 < (a0.size : Int)) = true := decide_eq_true c7
    have c7b1 : decide (0 < a0.size) = true := decide_eq_true (by omega)
    clear c7
    by_cases c9 : (wrap64 (1 + (wrap64 (Int.tdiv (wrap64 ((wrap64 (bt a0 0)) + 1)) 2)))) > (a0.size : Int)
    ·rw [if_pos c9] at H
     have c9b0 : decide ((a0.size : Int) < (wrap64 (1 + (wrap64 (Int.tdiv (wrap64 ((wrap64 (bt a0 0)) + 1)) 2))))) = true := decide_eq_true c9
     clear c9
     simp only [Option.some.injEq, Prod.mk.injEq] at H
     obtain ⟨rfl, rfl, rfl⟩ := H
     have p8 : 0 ≤ (0 : Int) := (by omega)
     have q8 : 0 < a0.size := (by have : (0 : Int) < (a0.size : Int) := SQ.da; omega)
     have hx8 : ∀ h : 0 < a0.size, ((a0[0]'h).toNat : Int) = bt a0 0 := bt_at a0 0
     clear p8
     have qi8 : (0 < (a0.size : Int)) = True := eq_true (SQ.da)
     replace q8 := eq_true q8
     go_wp2
     go_ret3
     exact ⟨SQ.er, SQ.bw⟩
    ·rw [if_neg c9] at H
     have c9b0 : decide ((a0.size : Int) < (wrap64 (1 + (wrap64 (Int.tdiv (wrap64 ((wrap64 (bt a0 0)) + 1)) 2))))) = false := decide_eq_false c9
     clear c9
     by_cases c10 : 1 ≤ (wrap64 (1 + (wrap64 (Int.tdiv (wrap64 ((wrap64 (bt a0 0)) + 1)) 2))))
     rotate_left
     ·rw [if_neg c10] at H
      exact absurd H (by simp)
     rw [if_pos c10] at H
     have c10b0 := eq_true c10
     have c10b1 : decide (1 ≤ (wrap64 (1 + (wrap64 (Int.tdiv (wrap64 ((wrap64 (bt a0 0)) + 1)) 2))))) = true := decide_eq_true c10
     by_cases c11 : (wrap64 (1 + (wrap64 (Int.tdiv (wrap64 ((wrap64 (bt a0 0)) + 1)) 2)))) ≤ (a0.size : Int)
     rotate_left
     ·rw [if_neg c11] at H
      exact absurd H (by simp)
     rw [if_pos c11] at H
     have c11b0 := eq_true c11
     have c11b1 : decide ((wrap64 (1 + (wrap64 (Int.tdiv (wrap64 ((wrap64 (bt a0 0)) + 1)) 2)))) ≤ (a0.size : Int)) = true := decide_eq_true c11
     replace H := Option.bind_eq_some_iff.mp H
     obtain ⟨t112, A120, H⟩ := H
     try dsimp only at H
     have A12 := A0_.mk A120
     clear A120
     by_cases c13 : (wrap64 (bt a0 0)) < (t112.size : Int)
     ·rw [if_pos c13] at H
      have c13b0 : decide ((wrap64 (bt a0 0)) < (t112.size : Int)) = true := decide_eq_true c13
      clear c13
      obtain ⟨ji14, hji14⟩ : ∃ j_ : Int, (wrap64 (bt a0 0)) = j_ := ⟨_, rfl⟩
      replace H : (if 0 ≤ (ji14) then (if (bt t112 (ji14)) = 0 then (if (ji14) ≤ (t112.size : Int) then (some (t112.extract 0 ((ji14) : Int).toNat, wrap64 (1 + (wrap64 (Int.tdiv (wrap64 ((ji14) + 1)) 2))), true)) else (none)) else (some ((⟨#[]⟩ : ByteArray), 0, false))) else (none)) = some (r1, r2, r3) := by first | (rw [hji14] at H; exact H) | (simp only [hji14] at H ⊢; exact H)
      (try rw [hji14] at c9b0)
      (try rw [hji14] at c10b0)
      (try rw [hji14] at c10b1)
      (try rw [hji14] at c10)
      (try rw [hji14] at c11b0)
      (try rw [hji14] at c11b1)
      (try rw [hji14] at c11)
      (try rw [hji14] at c13b0)
      (try rw [hji14] at A12)
      have hji14w : (IntKind.i64.wrap (bt a0 0)) = ji14 := (i64_w _).trans hji14
      by_cases c15 : 0 ≤ (ji14)
      rotate_left
      ·rw [if_neg c15] at H
       exact absurd H (by simp)
      rw [if_pos c15] at H
      have c15b0 : decide (0 ≤ (ji14)) = true := decide_eq_true c15
      clear c15
      by_cases c17 : (bt t112 (ji14)) = 0
      ·rw [if_pos c17] at H
       have c17b0 : ((bt t112 (ji14)) == 0) = true := beq_iff_eq.mpr c17
       have c17b1 : ((bt t112 (ji14)) != 0) = false := bne_eq_false_iff_eq.mpr c17
       clear c17
       have c18b0 := eq_true (of_decide_eq_true (by first | (with_reducible assumption) | assumption | (rw [← hji14]; assumption)) : 0 ≤ (ji14))
       by_cases c19 : (ji14) ≤ (t112.size : Int)
       rotate_left
       ·rw [if_neg c19] at H
        exact absurd H (by simp)
       rw [if_pos c19] at H
       have c19b0 := eq_true c19
       have c19b1 : decide ((ji14) ≤ (t112.size : Int)) = true := decide_eq_true c19
       clear c19
       simp only [Option.some.injEq, Prod.mk.injEq] at H
       obtain ⟨rfl, rfl, rfl⟩ := H
       have p8 : 0 ≤ (0 : Int) := (by omega)
       have q8 : 0 < a0.size := (by have : (0 : Int) < (a0.size : Int) := SQ.da; omega)
       have hx8 : ∀ h : 0 < a0.size, ((a0[0]'h).toNat : Int) = bt a0 0 := bt_at a0 0
       clear p8
       have qi8 : (0 < (a0.size : Int)) = True := eq_true (SQ.da)
       replace q8 := eq_true q8
       go_wp2_with (first | ((with_reducible refine gC (f := 67) rfl ?_); refine gL (some 29) rfl rfl Tryd.func67 (by kernel_rfl) rfl #[.string (a0.extract 1 ((wrap64 (1 + (wrap64 (Int.tdiv (wrap64 ((ji14) + 1)) 2)))) : Int).toNat)] rfl (by (try simp only [List.map_toArray, List.map_cons, List.map_nil]); first | done | (simp only [hji14]; rfl) | rfl | (simp only [List.length_drop, List.length_take]; rfl)) ?_; (with_reducible refine (nibble_Of.calls kj1 (a0.extract 1 ((wrap64 (1 + (wrap64 (Int.tdiv (wrap64 ((ji14) + 1)) 2)))) : Int).toNat) t112 _ A12.out).mono ?_); rintro e w20 ⟨rfl, hb⟩; refine ⟨_, rfl, ?_⟩; replace HB := A0_.mk (wT SQ.bw hb); clear hb; have p16 : 0 ≤ ((ji14) : Int) := SQ.da; have q16 : (ji14) < (t112.size : Int) := SQ.da; have hx16 := bt_at t112 (ji14); replace p16 := eq_true p16; replace q16 := eq_true q16))
       go_ret3
       exact ⟨by first | rfl | (simp [errW_none, errW_some] <;> rfl) | (simp only [← hji14]; first | rfl | (simp [errW_none, errW_some] <;> rfl)) | (simp [*, errW_none, errW_some] <;> rfl), SQ.bw⟩
      ·rw [if_neg c17] at H
       have c17b0 : ((bt t112 (ji14)) == 0) = false := beq_eq_false_iff_ne.mpr c17
       have c17b1 : ((bt t112 (ji14)) != 0) = true := bne_iff_ne.mpr c17
       simp only [Option.some.injEq, Prod.mk.injEq] at H
       obtain ⟨rfl, rfl, rfl⟩ := H
       have p8 : 0 ≤ (0 : Int) := (by omega)
       have q8 : 0 < a0.size := (by have : (0 : Int) < (a0.size : Int) := SQ.da; omega)
       have hx8 : ∀ h : 0 < a0.size, ((a0[0]'h).toNat : Int) = bt a0 0 := bt_at a0 0
       clear p8
       have qi8 : (0 < (a0.size : Int)) = True := eq_true (SQ.da)
       replace q8 := eq_true q8
       go_wp2_with (first | ((with_reducible refine gC (f := 67) rfl ?_); refine gL (some 29) rfl rfl Tryd.func67 (by kernel_rfl) rfl #[.string (a0.extract 1 ((wrap64 (1 + (wrap64 (Int.tdiv (wrap64 ((ji14) + 1)) 2)))) : Int).toNat)] rfl (by (try simp only [List.map_toArray, List.map_cons, List.map_nil]); first | done | (simp only [hji14]; rfl) | rfl | (simp only [List.length_drop, List.length_take]; rfl)) ?_; (with_reducible refine (nibble_Of.calls kj1 (a0.extract 1 ((wrap64 (1 + (wrap64 (Int.tdiv (wrap64 ((ji14) + 1)) 2)))) : Int).toNat) t112 _ A12.out).mono ?_); rintro e w21 ⟨rfl, hb⟩; refine ⟨_, rfl, ?_⟩; replace HB := A0_.mk (wT SQ.bw hb); clear hb; have p16 : 0 ≤ ((ji14) : Int) := SQ.da; have q16 : (ji14) < (t112.size : Int) := SQ.da; have hx16 := bt_at t112 (ji14); replace p16 := eq_true p16; replace q16 := eq_true q16))
       go_ret3
       exact ⟨by first | rfl | (simp [errW_none, errW_some] <;> rfl) | (simp only [← hji14]; first | rfl | (simp [errW_none, errW_some] <;> rfl)) | (simp [*, errW_none, errW_some] <;> rfl), SQ.bw⟩
     ·rw [if_neg c13] at H
      have c13b0 : decide ((wrap64 (bt a0 0)) < (t112.size : Int)) = false := decide_eq_false c13
      clear c13
      obtain ⟨ji22, hji22⟩ : ∃ j_ : Int, (wrap64 (bt a0 0)) = j_ := ⟨_, rfl⟩
      replace H : (if 0 ≤ (ji22) then (if (ji22) ≤ (t112.size : Int) then (some (t112.extract 0 ((ji22) : Int).toNat, wrap64 (1 + (wrap64 (Int.tdiv (wrap64 ((ji22) + 1)) 2))), true)) else (none)) else (none)) = some (r1, r2, r3) := by first | (rw [hji22] at H; exact H) | (simp only [hji22] at H ⊢; exact H)
      (try rw [hji22] at c9b0)
      (try rw [hji22] at c10b0)
      (try rw [hji22] at c10b1)
      (try rw [hji22] at c10)
      (try rw [hji22] at c11b0)
      (try rw [hji22] at c11b1)
      (try rw [hji22] at c11)
      (try rw [hji22] at c13b0)
      (try rw [hji22] at A12)
      have hji22w : (IntKind.i64.wrap (bt a0 0)) = ji22 := (i64_w _).trans hji22
      by_cases c23 : 0 ≤ (ji22)
      rotate_left
      ·rw [if_neg c23] at H
       exact absurd H (by simp)
      rw [if_pos c23] at H
      have c23b0 := eq_true c23
      have c23b1 : decide (0 ≤ (ji22)) = true := decide_eq_true c23
      clear c23
      by_cases c24 : (ji22) ≤ (t112.size : Int)
      rotate_left
      ·rw [if_neg c24] at H
       exact absurd H (by simp)
      rw [if_pos c24] at H
      have c24b0 := eq_true c24
      have c24b1 : decide ((ji22) ≤ (t112.size : Int)) = true := decide_eq_true c24
      clear c24
      simp only [Option.some.injEq, Prod.mk.injEq] at H
      obtain ⟨rfl, rfl, rfl⟩ := H
      have p8 : 0 ≤ (0 : Int) := (by omega)
      have q8 : 0 < a0.size := (by have : (0 : Int) < (a0.size : Int) := SQ.da; omega)
      have hx8 : ∀ h : 0 < a0.size, ((a0[0]'h).toNat : Int) = bt a0 0 := bt_at a0 0
      clear p8
      have qi8 : (0 < (a0.size : Int)) = True := eq_true (SQ.da)
      replace q8 := eq_true q8
      go_wp2_with (first | ((with_reducible refine gC (f := 67) rfl ?_); refine gL (some 29) rfl rfl Tryd.func67 (by kernel_rfl) rfl #[.string (a0.extract 1 ((wrap64 (1 + (wrap64 (Int.tdiv (wrap64 ((ji22) + 1)) 2)))) : Int).toNat)] rfl (by (try simp only [List.map_toArray, List.map_cons, List.map_nil]); first | done | (simp only [hji22]; rfl) | rfl | (simp only [List.length_drop, List.length_take]; rfl)) ?_; (with_reducible refine (nibble_Of.calls kj1 (a0.extract 1 ((wrap64 (1 + (wrap64 (Int.tdiv (wrap64 ((ji22) + 1)) 2)))) : Int).toNat) t112 _ A12.out).mono ?_); rintro e w25 ⟨rfl, hb⟩; refine ⟨_, rfl, ?_⟩; replace HB := A0_.mk (wT SQ.bw hb); clear hb))
      go_ret3
      exact ⟨by first | rfl | (simp [errW_none, errW_some] <;> rfl) | (simp only [← hji22]; first | rfl | (simp [errW_none, errW_some] <;> rfl)) | (simp [*, errW_none, errW_some] <;> rfl), SQ.bw⟩

/-! ### n9path: function 40 -/
def n9path.f (k : Nat) (s0_0 : ByteArray) : Option (ByteArray × ByteArray) := (nibble_Unpack.f k s0_0).bind fun bt113 => ((n9take.f s0_0 bt113.2.1).bind fun bt116 => (some (bt113.1, bt116.2)))
set_option maxHeartbeats 8000000 in
set_option maxRecDepth 100000 in
theorem n9path.calls (k : Nat) (g : Nat) (s0_0 : ByteArray) (r1 : ByteArray) (r2 : ByteArray) (w0 w : World) (hI : IsS74 w0 w g s0_0) (hB : Below w0.heap.size w0 w) (h : n9path.f k s0_0 = some (r1, r2)) :
  Calls Tryd.prog 40 #[.pointer (some ⟨g, 0, none⟩)] w fun e w' => e = .returned (.string r1) ∧ IsS74 w0 w' g r2 ∧ Below w0.heap.size w0 w' ∧ KeepBut w w' g none := by
 have HI0 := A0_.mk hI
 have HK := A0_.mk (KeepBut.refl w g none)
 have HL := A0_.mk hB.size
 clear hI
 have HW0 := A0_.mk hB.size
 have HB := A0_.mk hB
 clear hB
 have H : ((nibble_Unpack.f k s0_0).bind fun bt113 => ((n9take.f s0_0 bt113.2.1).bind fun bt116 => (some (bt113.1, bt116.2)))) = some (r1, r2) := h
 clear h
 replace H := Option.bind_eq_some_iff.mp H
 obtain ⟨⟨t113, t114, t115⟩, A20, H⟩ := H
 try dsimp only at H
 have A2 := A0_.mk A20
 clear A20
 replace H := Option.bind_eq_some_iff.mp H
 obtain ⟨⟨t116, t117⟩, A30, H⟩ := H
 try dsimp only at H
 have A3 := A0_.mk A30
 clear A30
 simp only [Option.some.injEq, Prod.mk.injEq] at H
 obtain ⟨rfl, rfl⟩ := H
 obtain ⟨HGz4, hgz4⟩ := HI0.out
 have hcz4_0 := cellS74_0 HGz4
 have hfz4_0 := bF HGz4 0
 clear HGz4 hgz4
 go_enter Tryd.func40, Tryd.ntmps40
 go_wp2_with (first | ((with_reducible refine gC (f := 55) rfl ?_); refine gL (some 11) rfl rfl Tryd.func55 (by kernel_rfl) rfl #[.string s0_0] rfl SQ.sm ?_; (with_reducible refine (nibble_Unpack.calls k s0_0 t113 t114 t115 _ A2.out).mono ?_); rintro e w5 ⟨rfl, hb⟩; refine ⟨_, rfl, ?_⟩; have n0_ := A0_.mk (IsS74.below (by repeat (first | (with_reducible first | exact HI0.out | apply IsS74.alloc | apply IsS74.drewN | apply IsS74.drew | apply IsS74.set_0) | exact HI0.out)) hb); have n1_ := A0_.mk (KeepBut.trans (by repeat (first | (with_reducible first | exact HK.out | apply KeepBut.set_ | apply keep_drewN | apply keep_drew | apply keep_alloc) | exact HK.out)) (KeepBut.of_below hb g none) (.inl rfl)); have n2_ := A0_.mk (wT (by repeat (first | (with_reducible first | exact HB.out | apply wA | apply pN | apply wD | refine wS ?_ (IsS74.ge HI0.out)) | exact HB.out)) hb); clear HI0; clear HK; clear HB; have HI0 := n0_; have HK := n1_; have HB := n2_; clear n0_ n1_ n2_; clear hb) | ((with_reducible refine gC (f := 41) rfl ?_); refine gL (some 17) rfl rfl Tryd.func41 (by kernel_rfl) rfl #[.pointer (some ⟨g, 0, none⟩), .int .i64 t114] rfl SQ.sm ?_; (with_reducible refine (n9take.calls g s0_0 t114 t116 t117 w0 _ ?side1 ?side2 A3.out).mono ?_); (case side1 => repeat (first | (with_reducible first | exact HI0.out | apply IsS74.alloc | apply IsS74.drewN | apply IsS74.drew | apply IsS74.set_0) | exact HI0.out)); (case side2 => repeat (first | (with_reducible first | exact HB.out | apply wA | apply pN | apply wD | refine wS ?_ (IsS74.ge HI0.out)) | exact HB.out)); rintro e w6 ⟨rfl, hi, hb, hk⟩; refine ⟨_, rfl, ?_⟩; replace HK := A0_.mk (KeepBut.trans (by repeat (first | (with_reducible first | exact HK.out | apply KeepBut.set_ | apply keep_drewN | apply keep_drew | apply keep_alloc) | exact HK.out)) hk (.inl rfl)); replace HB := A0_.mk (hb); replace HI0 := A0_.mk (hi); (try clear hb); (try clear hb2); (try clear hk); (try clear hi)))
 go_ret
 exact ⟨SQ.er, by repeat (first | (with_reducible first | exact HI0.out | apply IsS74.alloc | apply IsS74.drewN | apply IsS74.drew | apply IsS74.set_0) | exact HI0.out), by repeat (first | (with_reducible first | exact HB.out | apply wA | apply pN | apply wD | refine wS ?_ (IsS74.ge HI0.out)) | exact HB.out), by repeat (first | (with_reducible first | exact HK.out | apply KeepBut.set_ | apply keep_drewN | apply keep_drew | apply keep_alloc) | exact HK.out)⟩

/-! ### n9rest: function 42 -/
def n9rest.l0 : Nat → List ByteArray → ByteArray → Option (List ByteArray × ByteArray)
 | 0, _, _ => none
 | k + 1, x3, x1000 => if x1000.toList = ([] : List UInt8) then (some (x3, x1000)) else ((n9take.f x1000 32).bind fun bt118 => (if x3.length < 8796093022208 then (n9rest.l0 k (x3 ++ [bt118.1]) bt118.2) else (none)))
def n9rest.f (k : Nat) (s0_0 : ByteArray) : Option (List ByteArray × ByteArray) := n9rest.l0 k ([] : List ByteArray) s0_0
set_option maxHeartbeats 8000000 in
set_option maxRecDepth 100000 in
theorem n9rest.calls (k : Nat) (g : Nat) (s0_0 : ByteArray) (r1 : List ByteArray) (r2 : ByteArray) (w0 w : World) (hI : IsS74 w0 w g s0_0) (hB : Below w0.heap.size w0 w) (h : n9rest.f k s0_0 = some (r1, r2)) :
  Calls Tryd.prog 42 #[.pointer (some ⟨g, 0, none⟩)] w fun e w' => ∃ v0_ : Value, e = .returned (v0_) ∧ Kd.R Kd.string 9 w' w.heap.size (fun _ => True) v0_ r1 ∧ IsS74 w0 w' g r2 ∧ Below w0.heap.size w0 w' ∧ KeepBut w w' g none := by
 have HI0 := A0_.mk hI
 have HK := A0_.mk (KeepBut.refl w g none)
 have HL := A0_.mk hB.size
 clear hI
 have HW0 := A0_.mk hB.size
 have HB := A0_.mk hB
 clear hB
 have H : (n9rest.l0 k ([] : List ByteArray) s0_0) = some (r1, r2) := h
 clear h
 have H' := A0_.mk H
 clear H
 go_enter Tryd.func42, Tryd.ntmps42
 go_wp2
 go_loopg [3] k (fun kq v3 w' => ∃ (x3_1 : List ByteArray) (x1000_1 : ByteArray), A0_ (n9rest.l0 kq x3_1 x1000_1 = some (r1, r2)) ∧ A0_ (kq ≤ k) ∧ A0_ (Kd.R Kd.string 9 w' w.heap.size (fun _ => True) v3 x3_1) ∧ A0_ (IsS74 w0 w' g x1000_1) ∧ A0_ (KeepBut w w' g none) ∧ A0_ (Below w0.heap.size w0 w'))
 case atStart => exact ⟨(([] : List ByteArray)), (s0_0), H', ⟨Nat.le_refl _⟩, ⟨by first | exact Kd.R_nil _ _ _ _ _ | exact Kd.N_nil _ _ _ _ _ | exact Kd.V_nil _ _ _ _ _ | exact Kd.Q_nil _ _ _ _ _ | exact Kd.S_nil _ _ _ _ _⟩, ⟨by repeat (first | (with_reducible first | exact HI0.out | apply IsS74.alloc | apply IsS74.drewN | apply IsS74.drew | apply IsS74.set_0) | exact HI0.out)⟩, ⟨by repeat (first | (with_reducible first | exact HK.out | apply KeepBut.set_ | apply keep_drewN | apply keep_drew | apply keep_alloc) | exact HK.out)⟩, ⟨by repeat (first | (with_reducible first | exact HB.out | apply wA | apply pN | apply wD | refine wS ?_ (IsS74.ge HI0.out)) | exact HB.out)⟩⟩
 case round =>
  clear H'
  obtain ⟨x3_1, x1000_1, HA, HK1, HO_3, HI0, HK, HB⟩ := hrel
  cases gk with
  | zero => exact absurd HA.out (by simp [n9rest.l0])
  | succ k1 =>
   have H := HA.out
   clear HA
   simp only [n9rest.l0] at H
   by_cases c2 : x1000_1.toList = ([] : List UInt8)
   ·rw [if_pos c2] at H
    have c2b0 : (x1000_1.toList == ([] : List UInt8)) = true := beq_iff_eq.mpr c2
    have c2b1 : (x1000_1.toList != ([] : List UInt8)) = false := bne_eq_false_iff_eq.mpr c2
    clear c2
    simp only [Option.some.injEq, Prod.mk.injEq] at H
    obtain ⟨rfl, rfl⟩ := H
    obtain ⟨HGz3, hgz3⟩ := HI0.out
    have hcz3_0 := cellS74_0 HGz3
    have hfz3_0 := bF HGz3 0
    clear HGz3 hgz3
    go_wp2
    go_ret
    exact ⟨_, SQ.er, by (with_reducible repeat (first | apply Kd.R_alloc | apply Kd.R_drewN | apply Kd.R_drew)); exact HO_3.out, by repeat (first | (with_reducible first | exact HI0.out | apply IsS74.alloc | apply IsS74.drewN | apply IsS74.drew | apply IsS74.set_0) | exact HI0.out), by repeat (first | (with_reducible first | exact HB.out | apply wA | apply pN | apply wD | refine wS ?_ (IsS74.ge HI0.out)) | exact HB.out), by repeat (first | (with_reducible first | exact HK.out | apply KeepBut.set_ | apply keep_drewN | apply keep_drew | apply keep_alloc) | exact HK.out)⟩
   ·rw [if_neg c2] at H
    have c2b0 : (x1000_1.toList == ([] : List UInt8)) = false := beq_eq_false_iff_ne.mpr c2
    have c2b1 : (x1000_1.toList != ([] : List UInt8)) = true := bne_iff_ne.mpr c2
    replace H := Option.bind_eq_some_iff.mp H
    obtain ⟨⟨t118, t119⟩, A40, H⟩ := H
    try dsimp only at H
    have A4 := A0_.mk A40
    clear A40
    by_cases c5 : x3_1.length < 8796093022208
    rotate_left
    ·rw [if_neg c5] at H
     exact absurd H (by simp)
    rw [if_pos c5] at H
    have LMc5 := A0_.mk c5
    clear c5
    obtain ⟨y120, hy120⟩ : ∃ y_ : List ByteArray, y_ = (x3_1 ++ [t118]) := ⟨_, rfl⟩
    replace H : (n9rest.l0 k1 y120 t119) = some (r1, r2) := by first | (rw [hy120]; with_reducible exact H) | (have H2_ := (Option.bind_some _ _).symm.trans H; rw [hy120]; with_reducible exact H2_) | (have H2_ := (Option.bind_some _ _).symm.trans H; with_reducible exact H2_) | with_reducible exact H | (rw [hy120]; exact H) | exact H
    have Ny120 := A0_.mk hy120
    clear hy120
    have H' := A0_.mk H
    clear H
    obtain ⟨HGz6, hgz6⟩ := HI0.out
    have hcz6_0 := cellS74_0 HGz6
    have hfz6_0 := bF HGz6 0
    clear HGz6 hgz6
    go_wp2_with (first | ((with_reducible refine gC (f := 41) rfl ?_); refine gL (some 11) rfl rfl Tryd.func41 (by kernel_rfl) rfl #[.pointer (some ⟨g, 0, none⟩), .int .i64 32] rfl SQ.sm ?_; (with_reducible refine (n9take.calls g x1000_1 32 t118 t119 w0 _ ?side1 ?side2 A4.out).mono ?_); (case side1 => repeat (first | (with_reducible first | exact HI0.out | apply IsS74.alloc | apply IsS74.drewN | apply IsS74.drew | apply IsS74.set_0) | exact HI0.out)); (case side2 => repeat (first | (with_reducible first | exact HB.out | apply wA | apply pN | apply wD | refine wS ?_ (IsS74.ge HI0.out)) | exact HB.out)); rintro e w7 ⟨rfl, hi, hb, hk⟩; refine ⟨_, rfl, ?_⟩; replace HO_3 := A0_.mk (Kd.R_mono (Kd.R_keep (IsS74.apart (show IsS74 w0 _ g x1000_1 from by repeat (first | (with_reducible first | exact HI0.out | apply IsS74.alloc | apply IsS74.drewN | apply IsS74.drew | apply IsS74.set_0) | exact HI0.out)) (by (with_reducible repeat (first | apply Kd.R_alloc | apply Kd.R_drewN | apply Kd.R_drew)); exact HO_3.out) (by decide)) hk (fun _ h => h.2)) (fun _ h => h.1)); replace HK := A0_.mk (KeepBut.trans (by repeat (first | (with_reducible first | exact HK.out | apply KeepBut.set_ | apply keep_drewN | apply keep_drew | apply keep_alloc) | exact HK.out)) hk (.inl rfl)); replace HB := A0_.mk (hb); replace HI0 := A0_.mk (hi); (try clear hb); (try clear hb2); (try clear hk); (try clear hi)) | ((with_reducible refine gate_builtin (b := .append) (xs := #[.tmp 9, .tmp 12]) rfl ?_); at_builtin; refine Kd.R_append Kd.string w.heap.size rfl (.tmp 9) (.tmp 12) 22 9 (.string ⟨#[]⟩) 16 rfl Tryd.underlying22 info9 rfl (by decide) (by omega) u3 x3_1 t118 [.string t118] (fun _ => True) (fun _ => False) rfl rfl ?aP (fun _ hk => hk.elim) ?aF ?aO (Below.refl _ _) ?aS ?aL ?_; (case aP => exact rfl); (case aF => exact (fun _ _ => trivial)); (case aO => exact (by (with_reducible repeat (first | apply Kd.R_alloc | apply Kd.R_drewN | apply Kd.R_drew)); exact HO_3.out)); (case aS => exact (keep_size (w := w) (g := g) (row := none) (by repeat (first | (with_reducible first | exact HK.out | apply KeepBut.set_ | apply keep_drewN | apply keep_drew | apply keep_alloc) | exact HK.out)))); (case aL => have := LMc5.out; omega); intro v121 w8 ho hb hg hat; rw [← Ny120.out] at ho; have n0_ := A0_.mk (IsS74.grown (by repeat (first | (with_reducible first | exact HI0.out | apply IsS74.alloc | apply IsS74.drewN | apply IsS74.drew | apply IsS74.set_0) | exact HI0.out)) hg (IsS74.own_ne HI0.out HO_3.out (by decide))); have n1_ := A0_.mk (below_weaken (by repeat (first | (with_reducible first | exact HB.out | apply wA | apply pN | apply wD | refine wS ?_ (IsS74.ge HI0.out)) | exact HB.out)) HL.out hb); have n2_ := A0_.mk (KeepBut.trans (by repeat (first | (with_reducible first | exact HK.out | apply KeepBut.set_ | apply keep_drewN | apply keep_drew | apply keep_alloc) | exact HK.out)) (KeepBut.of_grown hg g) (Kd.R_base2 HO_3.out)); have n3_ := A0_.mk (ho); clear HI0; clear HB; clear HK; clear HO_3; have HI0 := n0_; have HB := n1_; have HK := n2_; have HO122 := n3_; clear n0_ n1_ n2_ n3_; clear ho hb hg hat))
    go_roundg k1
    case measure => have := HK1.out; omega
    case rel => exact ⟨(y120), (t119), H', ⟨by have := HK1.out; omega⟩, ⟨by (with_reducible repeat (first | apply Kd.R_alloc | apply Kd.R_drewN | apply Kd.R_drew)); exact HO122.out⟩, ⟨by repeat (first | (with_reducible first | exact HI0.out | apply IsS74.alloc | apply IsS74.drewN | apply IsS74.drew | apply IsS74.set_0) | exact HI0.out)⟩, ⟨by repeat (first | (with_reducible first | exact HK.out | apply KeepBut.set_ | apply keep_drewN | apply keep_drew | apply keep_alloc) | exact HK.out)⟩, ⟨by repeat (first | (with_reducible first | exact HB.out | apply wA | apply pN | apply wD | refine wS ?_ (IsS74.ge HI0.out)) | exact HB.out)⟩⟩

end Go.Proofs.YtklakmooaffjpaaDoor.PNor
