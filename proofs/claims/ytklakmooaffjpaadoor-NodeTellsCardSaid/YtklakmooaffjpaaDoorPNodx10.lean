import Derived.Test.YtklakmooaffjpaaDoorPNodx5
import Derived.Test.YtklakmooaffjpaaDoorPNodx6
import Derived.Test.YtklakmooaffjpaaDoorSQ
import Derived.Test.YtklakmooaffjpaaDoorPNodx0
import Derived.Test.YtklakmooaffjpaaDoorPNodx8
import Derived.Test.YtklakmooaffjpaaDoorPNodx9
section
/-
  node.Decode in plain words.
-/
namespace Go.Proofs.YtklakmooaffjpaaDoor.NodL
open Go.RowKit Go.Proofs.YtklakmooaffjpaaDoorW.PrintWords Go.Proofs.YtklakmooaffjpaaDoorW.PrintLast Go.Proofs.YtklakmooaffjpaaDoorW.PrintMore Go.Proofs.YtklakmooaffjpaaDoor.NibP Go.Proofs.YtklakmooaffjpaaDoor.NodO Go.Proofs.YtklakmooaffjpaaDoor.NodP Go.Proofs.YtklakmooaffjpaaDoor.NodE Go.Proofs.YtklakmooaffjpaaDoor.NodG Go.Proofs.YtklakmooaffjpaaDoor.NodI Go.Proofs.YtklakmooaffjpaaDoor.NodJ
set_option linter.unusedVariables false
/-- The text of an Item. -/
def isItem (s : ByteArray) (i : It) : Prop := goodP i ∧ encB i = s
def It.zero : It := ⟨0, ⟨#[]⟩, false, ⟨#[]⟩, 0, []⟩
def tup (i : It) (b : Bool) : Int × ByteArray × Bool × ByteArray × Int × List ByteArray × Bool := (i.k, i.p, i.h, i.v, i.m, i.l, b)
theorem dec_pos {s : ByteArray} {i : It} (h : isItem s i) (hs : s.size ≤ 10000) (k : Nat) (hk : 20000 < k) : PNod.node_Decode.f k s = some (tup i true) := by
  have hr := read_enc i h.1 k hk
  rw [h.2] at hr
  have hp : i.p.size ≤ 16 := by
    obtain ⟨j, hj, h1, _⟩ := read_tot s hs k hk
    rw [hr] at hj
    have e := congrArg (fun x => x.2.1) (Option.some.inj hj)
    simp only at e
    rw [e]; exact h1
  unfold PNod.node_Decode.f
  rw [show PNod.node_read.f k s = some (i.k, i.p, i.h, i.v, i.m, i.l) from hr, Option.bind_some]
  dsimp only
  rw [enc_f i (by omega) k (by omega), Option.bind_some]
  unfold NodE.encR
  rw [if_pos h.1]
  simp only [if_pos]
  rw [if_pos (by rw [h.2])]; rfl
theorem dec_neg {s : ByteArray} (h : ∀ i, ¬ isItem s i) (hs : s.size ≤ 10000) (k : Nat) (hk : 20000 < k) : PNod.node_Decode.f k s = some (tup It.zero false) := by
  obtain ⟨i, hr, hp, hl⟩ := read_tot s hs k hk
  unfold PNod.node_Decode.f
  rw [show PNod.node_read.f k s = some (i.k, i.p, i.h, i.v, i.m, i.l) from hr, Option.bind_some]
  dsimp only
  rw [enc_f i (by omega) k (by omega), Option.bind_some]
  unfold NodE.encR
  by_cases hg : goodP i
  · rw [if_pos hg]
    simp only [if_pos]
    rw [if_neg (fun e => h i ⟨hg, (toList_inj _ _).1 e⟩)]; rfl
  · rw [if_neg hg, if_neg (by decide)]; rfl
end Go.Proofs.YtklakmooaffjpaaDoor.NodL
end

section
-- Written by a program of this session for this seat. Not trusted: Lean checks it.
namespace Go.Proofs.YtklakmooaffjpaaDoor.PNod
open Go.RowKit Go.Proofs.YtklakmooaffjpaaDoorW.PrintWords Go.Proofs.YtklakmooaffjpaaDoorW.PrintLast Go.Proofs.YtklakmooaffjpaaDoorW.PrintMore
attribute [local go_sem] max2_int min2_int max_two min_two max_three min_three max_four min_four   -- for this text's walks alone
set_option linter.unusedVariables false
set_option linter.unusedSimpArgs false
open Go.Proofs.YtklakmooaffjpaaDoor.HW Go.Proofs.YtklakmooaffjpaaDoor.DgsB

/-! ### r9Encode: function 15 -/
mutual
def r9Encode.j0 : Nat → ByteArray → Int → ByteArray → Bool → ByteArray → Int → List ByteArray → Option (ByteArray)
 | 0, _, _, _, _, _, _, _ => none
 | k + 1, x3, x243000, x243001, x243002, x243003, x243004, x243005 => r9Encode.l0 k x3 0 x243000 x243001 x243002 x243003 x243004 x243005
def r9Encode.l0 : Nat → ByteArray → Int → Int → ByteArray → Bool → ByteArray → Int → List ByteArray → Option (ByteArray)
 | 0, _, _, _, _, _, _, _, _ => none
 | k + 1, x3, x4, x243000, x243001, x243002, x243003, x243004, x243005 => if x4 < (x243005.length : Int) then (if 0 ≤ x4 then (if x3.size + (rdOf ByteArray.empty x243005 x4).size ≤ 9223372036854775807 then (r9Encode.l0 k (x3 ++ (rdOf ByteArray.empty x243005 x4)) (wrap64 (x4 + 1)) x243000 x243001 x243002 x243003 x243004 x243005) else (none)) else (none)) else (some x3)
end
def r9Encode.f (k : Nat) (a0_0 : Int) (a0_1 : ByteArray) (a0_2 : Bool) (a0_3 : ByteArray) (a0_4 : Int) (l0_5 : List ByteArray) : Option (ByteArray) := (r9Good.f k a0_0 a0_1 a0_2 a0_3 a0_4 l0_5).bind fun t243 => (if t243 = true then ((some (([(a0_0) % 256] : List Int) : List Int)).bind fun y244 => (if a0_0 = 3 then ((some (([(a0_4 / 256) % 256, (a0_4) % 256] : List Int) : List Int)).bind fun y247 => (if (strOfNums y244).size + (strOfNums y247).size ≤ 9223372036854775807 then (if a0_2 = true then ((some (([1, ((a0_3.size : Int)) % 256] : List Int) : List Int)).bind fun y250 => (if (strOfNums y250).size + a0_3.size ≤ 9223372036854775807 then (if ((strOfNums y244) ++ (strOfNums y247)).size + ((strOfNums y250) ++ a0_3).size ≤ 9223372036854775807 then (r9Encode.j0 k (((strOfNums y244) ++ (strOfNums y247)) ++ ((strOfNums y250) ++ a0_3)) a0_0 a0_1 a0_2 a0_3 a0_4 l0_5) else (none)) else (none))) else (if ((strOfNums y244) ++ (strOfNums y247)).size + 1 ≤ 9223372036854775807 then (r9Encode.j0 k (((strOfNums y244) ++ (strOfNums y247)) ++ (⟨#[0]⟩ : ByteArray)) a0_0 a0_1 a0_2 a0_3 a0_4 l0_5) else (none))) else (none))) else ((r2Pack.f k a0_1).bind fun bt253 => (if (strOfNums y244).size + bt253.1.size ≤ 9223372036854775807 then (if a0_0 = 1 then ((some (([((a0_3.size : Int)) % 256] : List Int) : List Int)).bind fun y255 => (if (strOfNums y255).size + a0_3.size ≤ 9223372036854775807 then (if ((strOfNums y244) ++ bt253.1).size + ((strOfNums y255) ++ a0_3).size ≤ 9223372036854775807 then (r9Encode.j0 k (((strOfNums y244) ++ bt253.1) ++ ((strOfNums y255) ++ a0_3)) a0_0 a0_1 a0_2 a0_3 a0_4 l0_5) else (none)) else (none))) else (r9Encode.j0 k ((strOfNums y244) ++ bt253.1) a0_0 a0_1 a0_2 a0_3 a0_4 l0_5)) else (none))))) else (some (⟨#[]⟩ : ByteArray)))
set_option maxHeartbeats 8000000 in
set_option maxRecDepth 100000 in
theorem r9Encode.calls (k : Nat) (a0_0 : Int) (a0_1 : ByteArray) (a0_2 : Bool) (a0_3 : ByteArray) (a0_4 : Int) (A0_5 : Option Addr) (c0_5 : Nat) (l0_5 : List ByteArray) (r : ByteArray) (w : World) (hr0_5 : Kd.C Kd.string w A0_5 l0_5.length l0_5) (hc0_5 : l0_5.length ≤ c0_5) (h : r9Encode.f k a0_0 a0_1 a0_2 a0_3 a0_4 l0_5 = some r) :
  Calls Tryd.prog 15 #[.agg #[.int .i64 a0_0, .string a0_1, .bool a0_2, .string a0_3, .int .i64 a0_4, .slice A0_5 l0_5.length c0_5]] w fun e w' => e = .returned (.string r) ∧ Below w.heap.size w w' := by
 have hfd55_0 : ∀ (x0_ x1_ : Value) (W : World), (Instr.field 55 (.agg #[x0_, x1_]) 0).run Tryd.prog W = .ok (x0_) W := fun x0_ x1_ W => by kernel_rfl
 have hu24 := Tryd.underlying24
 have hu55 := Tryd.underlying55
 have HR0_5 := A0_.mk hr0_5
 have HC0_5 := A0_.mk hc0_5
 clear hr0_5 hc0_5
 have HB := A0_.mk (Below.refl w.heap.size w)
 have H : ((r9Good.f k a0_0 a0_1 a0_2 a0_3 a0_4 l0_5).bind fun t243 => (if t243 = true then ((some (([(a0_0) % 256] : List Int) : List Int)).bind fun y244 => (if a0_0 = 3 then ((some (([(a0_4 / 256) % 256, (a0_4) % 256] : List Int) : List Int)).bind fun y247 => (if (strOfNums y244).size + (strOfNums y247).size ≤ 9223372036854775807 then (if a0_2 = true then ((some (([1, ((a0_3.size : Int)) % 256] : List Int) : List Int)).bind fun y250 => (if (strOfNums y250).size + a0_3.size ≤ 9223372036854775807 then (if ((strOfNums y244) ++ (strOfNums y247)).size + ((strOfNums y250) ++ a0_3).size ≤ 9223372036854775807 then (r9Encode.j0 k (((strOfNums y244) ++ (strOfNums y247)) ++ ((strOfNums y250) ++ a0_3)) a0_0 a0_1 a0_2 a0_3 a0_4 l0_5) else (none)) else (none))) else (if ((strOfNums y244) ++ (strOfNums y247)).size + 1 ≤ 9223372036854775807 then (r9Encode.j0 k (((strOfNums y244) ++ (strOfNums y247)) ++ (⟨#[0]⟩ : ByteArray)) a0_0 a0_1 a0_2 a0_3 a0_4 l0_5) else (none))) else (none))) else ((r2Pack.f k a0_1).bind fun bt253 => (if (strOfNums y244).size + bt253.1.size ≤ 9223372036854775807 then (if a0_0 = 1 then ((some (([((a0_3.size : Int)) % 256] : List Int) : List Int)).bind fun y255 => (if (strOfNums y255).size + a0_3.size ≤ 9223372036854775807 then (if ((strOfNums y244) ++ bt253.1).size + ((strOfNums y255) ++ a0_3).size ≤ 9223372036854775807 then (r9Encode.j0 k (((strOfNums y244) ++ bt253.1) ++ ((strOfNums y255) ++ a0_3)) a0_0 a0_1 a0_2 a0_3 a0_4 l0_5) else (none)) else (none))) else (r9Encode.j0 k ((strOfNums y244) ++ bt253.1) a0_0 a0_1 a0_2 a0_3 a0_4 l0_5)) else (none))))) else (some (⟨#[]⟩ : ByteArray)))) = some r := h
 clear h
 replace H := Option.bind_eq_some_iff.mp H
 obtain ⟨t243, A20, H⟩ := H
 try dsimp only at H
 have A2 := A0_.mk A20
 clear A20
 by_cases c3 : t243 = true
 ·subst c3
  rw [if_pos rfl] at H
  obtain ⟨y244, hy244⟩ : ∃ y_ : List Int, y_ = (([(a0_0) % 256] : List Int)) := ⟨_, rfl⟩
  replace H : (if a0_0 = 3 then ((some (([(a0_4 / 256) % 256, (a0_4) % 256] : List Int) : List Int)).bind fun y247 => (if (strOfNums y244).size + (strOfNums y247).size ≤ 9223372036854775807 then (if a0_2 = true then ((some (([1, ((a0_3.size : Int)) % 256] : List Int) : List Int)).bind fun y250 => (if (strOfNums y250).size + a0_3.size ≤ 9223372036854775807 then (if ((strOfNums y244) ++ (strOfNums y247)).size + ((strOfNums y250) ++ a0_3).size ≤ 9223372036854775807 then (r9Encode.j0 k (((strOfNums y244) ++ (strOfNums y247)) ++ ((strOfNums y250) ++ a0_3)) a0_0 a0_1 a0_2 a0_3 a0_4 l0_5) else (none)) else (none))) else (if ((strOfNums y244) ++ (strOfNums y247)).size + 1 ≤ 9223372036854775807 then (r9Encode.j0 k (((strOfNums y244) ++ (strOfNums y247)) ++ (⟨#[0]⟩ : ByteArray)) a0_0 a0_1 a0_2 a0_3 a0_4 l0_5) else (none))) else (none))) else ((r2Pack.f k a0_1).bind fun bt253 => (if (strOfNums y244).size + bt253.1.size ≤ 9223372036854775807 then (if a0_0 = 1 then ((some (([((a0_3.size : Int)) % 256] : List Int) : List Int)).bind fun y255 => (if (strOfNums y255).size + a0_3.size ≤ 9223372036854775807 then (if ((strOfNums y244) ++ bt253.1).size + ((strOfNums y255) ++ a0_3).size ≤ 9223372036854775807 then (r9Encode.j0 k (((strOfNums y244) ++ bt253.1) ++ ((strOfNums y255) ++ a0_3)) a0_0 a0_1 a0_2 a0_3 a0_4 l0_5) else (none)) else (none))) else (r9Encode.j0 k ((strOfNums y244) ++ bt253.1) a0_0 a0_1 a0_2 a0_3 a0_4 l0_5)) else (none)))) = some r := by first | (rw [hy244]; with_reducible exact H) | (have H2_ := (Option.bind_some _ _).symm.trans H; rw [hy244]; with_reducible exact H2_) | (have H2_ := (Option.bind_some _ _).symm.trans H; with_reducible exact H2_) | with_reducible exact H | (rw [hy244]; exact H) | exact H
  have Ny244 := A0_.mk hy244
  clear hy244
  have HC4 := A0_.mk H
  clear H
  go_enter Tryd.func15, Tryd.ntmps15
  go_upto_if 15 with (first | ((with_reducible refine gD (N := 1) rfl ?_); refine xE ?hg (N := 1) ?hd (cs := #[.int .i64 a0_0, .string a0_1, .bool a0_2, .string a0_3, .int .i64 a0_4, .slice A0_5 l0_5.length c0_5]) (t := 24) ?hr ?_; (case hd => rfl); (case hg => rfl); (case hr => first | (go_simp; done) | (go_simp; rfl)); intro gb242 hg w5 hbox hb; have BK242 := A0_.mk (hbox); have GW242 := A0_.mk ((by rw [hg]; exact (wZ SQ.bw) : w.heap.size ≤ gb242)); have GE242 := A0_.mk ((by rw [hg]; exact (wZ SQ.bw) : w.heap.size ≤ gb242)); replace HB := A0_.mk (wT SQ.bw hb); clear hb hbox hg; obtain ⟨hcz6_0, hcz6_1, hcz6_2, hcz6_3, hcz6_4, hcz6_5, hfz6_0, hfz6_1, hfz6_2, hfz6_3, hfz6_4, hfz6_5⟩ := SQ.cs6 BK242.out) | ((with_reducible refine gC (f := 14) rfl ?_); refine gL (some 6) rfl rfl Tryd.func14 (by kernel_rfl) rfl #[.agg #[.int .i64 a0_0, .string a0_1, .bool a0_2, .string a0_3, .int .i64 a0_4, .slice A0_5 l0_5.length c0_5]] rfl SQ.sm ?_; (with_reducible refine (r9Good.calls k a0_0 a0_1 a0_2 a0_3 a0_4 _ _ l0_5 true _ ?side1 ?side2 A2.out).mono ?_); (case side1 => repeat (first | exact (Kd.C_below HR0_5.out HB.out) | (with_reducible refine Kd.C_alloc ?_ _) | (with_reducible refine Kd.C_drewN ?_ _) | (with_reducible refine Kd.C_drew ?_))); (case side2 => exact HC0_5.out); rintro e w7 ⟨rfl, hb⟩; refine ⟨_, rfl, ?_⟩; replace BK242 := A0_.mk (bB (g := gb242) SQ.kw hb); replace HB := A0_.mk (wT SQ.bw hb); clear hb; obtain ⟨hcz8_0, hcz8_1, hcz8_2, hcz8_3, hcz8_4, hcz8_5, hfz8_0, hfz8_1, hfz8_2, hfz8_3, hfz8_4, hfz8_5⟩ := SQ.cs6 BK242.out) | ((with_reducible refine gD (N := 11) rfl ?_); refine Kd.R_lit (Kd.int .u8) _ 5 ?hg (N := 11) ?hd (xs := ([(a0_0) % 256] : List Int)) (inner := [.int .u8 ((a0_0) % 256)]) (ok := fun _ => True) (okp := fun _ => True) ?hr ?hp (fun _ hk => hk) trivial (Below.refl _ _) (Nat.le_refl _) (by simp) ?_; (case hd => rfl); (case hg => rfl); (case hr => first | (go_simp; done) | (go_simp; rfl)); (case hp => exact (Reps.one (show Kd.M (Kd.int .u8) _ _ _ ((a0_0) % 256) [.int .u8 ((a0_0) % 256)] from rfl) (Reps.none _ _))); intro v245 w9 ho10 hb hg_ hnew_; clear hg_ hnew_; (first | rw [← Ny244.out] at ho10 | (simp only [Int.reduceToNat] at ho10; rw [← Ny244.out] at ho10)); have HO246 := A0_.mk (Kd.R_lower ho10 (wZ SQ.bw)); replace BK242 := A0_.mk (bB (g := gb242) SQ.kw hb); replace HB := A0_.mk (wT SQ.bw hb); clear hb ho10; have hcv11 := own_string (P := Tryd.prog) Tryd.underlying42 Tryd.underlying5 Tryd.underlying9 (Kd.own_of_R HO246.out); obtain ⟨hcz12_0, hcz12_1, hcz12_2, hcz12_3, hcz12_4, hcz12_5, hfz12_0, hfz12_1, hfz12_2, hfz12_3, hfz12_4, hfz12_5⟩ := SQ.cs6 BK242.out))
  (try simp only [Act.put, List.setIfInBounds_toArray, List.set_cons_zero, List.set_cons_succ])
  go_cut [3] (fun v3 wc => ∃ (kq : Nat) (x3_3 : ByteArray), v3 = .string x3_3 ∧ A0_ (r9Encode.j0 kq x3_3 a0_0 a0_1 a0_2 a0_3 a0_4 l0_5 = some r) ∧ A0_ (kq ≤ k) ∧ A0_ (wc.heap[gb242]? = some (.cells #[.int .i64 a0_0, .string a0_1, .bool a0_2, .string a0_3, .int .i64 a0_4, (.slice A0_5 l0_5.length c0_5)] 24 (0, 0))) ∧ A0_ (Below w.heap.size w wc))
  case first =>
   have H := HC4.out
   clear HC4
   by_cases c13 : a0_0 = 3
   ·rw [if_pos c13] at H
    have c13b0 : (a0_0 == 3) = true := beq_iff_eq.mpr c13
    have c13b1 : (a0_0 != 3) = false := bne_eq_false_iff_eq.mpr c13
    clear c13
    (first | rw [c13b0] | (simp only [i64_w, i32_w]; rw [c13b0]) | skip)
    obtain ⟨y247, hy247⟩ : ∃ y_ : List Int, y_ = (([(a0_4 / 256) % 256, (a0_4) % 256] : List Int)) := ⟨_, rfl⟩
    replace H : (if (strOfNums y244).size + (strOfNums y247).size ≤ 9223372036854775807 then (if a0_2 = true then ((some (([1, ((a0_3.size : Int)) % 256] : List Int) : List Int)).bind fun y250 => (if (strOfNums y250).size + a0_3.size ≤ 9223372036854775807 then (if ((strOfNums y244) ++ (strOfNums y247)).size + ((strOfNums y250) ++ a0_3).size ≤ 9223372036854775807 then (r9Encode.j0 k (((strOfNums y244) ++ (strOfNums y247)) ++ ((strOfNums y250) ++ a0_3)) a0_0 a0_1 a0_2 a0_3 a0_4 l0_5) else (none)) else (none))) else (if ((strOfNums y244) ++ (strOfNums y247)).size + 1 ≤ 9223372036854775807 then (r9Encode.j0 k (((strOfNums y244) ++ (strOfNums y247)) ++ (⟨#[0]⟩ : ByteArray)) a0_0 a0_1 a0_2 a0_3 a0_4 l0_5) else (none))) else (none)) = some r := by first | (rw [hy247]; with_reducible exact H) | (have H2_ := (Option.bind_some _ _).symm.trans H; rw [hy247]; with_reducible exact H2_) | (have H2_ := (Option.bind_some _ _).symm.trans H; with_reducible exact H2_) | with_reducible exact H | (rw [hy247]; exact H) | exact H
    have Ny247 := A0_.mk hy247
    clear hy247
    by_cases c14 : (strOfNums y244).size + (strOfNums y247).size ≤ 9223372036854775807
    rotate_left
    ·rw [if_neg c14] at H
     exact absurd H (by simp)
    rw [if_pos c14] at H
    have c14b0 := eq_true c14
    have c14b1 : decide ((strOfNums y244).size + (strOfNums y247).size ≤ 9223372036854775807) = true := decide_eq_true c14
    try have c14b2 : (9223372036854775807 < (strOfNums y244).size + (strOfNums y247).size) = False := eq_false (Nat.not_lt.2 c14)
    by_cases c15 : a0_2 = true
    ·subst c15
     rw [if_pos rfl] at H
     obtain ⟨y250, hy250⟩ : ∃ y_ : List Int, y_ = (([1, ((a0_3.size : Int)) % 256] : List Int)) := ⟨_, rfl⟩
     replace H : (if (strOfNums y250).size + a0_3.size ≤ 9223372036854775807 then (if ((strOfNums y244) ++ (strOfNums y247)).size + ((strOfNums y250) ++ a0_3).size ≤ 9223372036854775807 then (r9Encode.j0 k (((strOfNums y244) ++ (strOfNums y247)) ++ ((strOfNums y250) ++ a0_3)) a0_0 a0_1 true a0_3 a0_4 l0_5) else (none)) else (none)) = some r := by first | (rw [hy250]; with_reducible exact H) | (have H2_ := (Option.bind_some _ _).symm.trans H; rw [hy250]; with_reducible exact H2_) | (have H2_ := (Option.bind_some _ _).symm.trans H; with_reducible exact H2_) | with_reducible exact H | (rw [hy250]; exact H) | exact H
     have Ny250 := A0_.mk hy250
     clear hy250
     by_cases c16 : (strOfNums y250).size + a0_3.size ≤ 9223372036854775807
     rotate_left
     ·rw [if_neg c16] at H
      exact absurd H (by simp)
     rw [if_pos c16] at H
     have c16b0 := eq_true c16
     have c16b1 : decide ((strOfNums y250).size + a0_3.size ≤ 9223372036854775807) = true := decide_eq_true c16
     try have c16b2 : (9223372036854775807 < (strOfNums y250).size + a0_3.size) = False := eq_false (Nat.not_lt.2 c16)
     by_cases c17 : ((strOfNums y244) ++ (strOfNums y247)).size + ((strOfNums y250) ++ a0_3).size ≤ 9223372036854775807
     rotate_left
     ·rw [if_neg c17] at H
      exact absurd H (by simp)
     rw [if_pos c17] at H
     have c17b0 := eq_true c17
     have c17b1 : decide (((strOfNums y244) ++ (strOfNums y247)).size + ((strOfNums y250) ++ a0_3).size ≤ 9223372036854775807) = true := decide_eq_true c17
     try have c17b2 : (9223372036854775807 < ((strOfNums y244) ++ (strOfNums y247)).size + ((strOfNums y250) ++ a0_3).size) = False := eq_false (Nat.not_lt.2 c17)
     have c17z9 := c17b2
     try simp only [ByteArray.size_append] at c17z9
     try have c17z8 : ¬ _ := of_eq_false c17z9
     have H' := A0_.mk H
     clear H
     obtain ⟨hcz18_0, hcz18_1, hcz18_2, hcz18_3, hcz18_4, hcz18_5, hfz18_0, hfz18_1, hfz18_2, hfz18_3, hfz18_4, hfz18_5⟩ := SQ.cs6 BK242.out
     go_wp2_with (first | ((with_reducible refine gD (N := 24) rfl ?_); refine Kd.R_lit (Kd.int .u8) _ 5 ?hg (N := 24) ?hd (xs := ([(a0_4 / 256) % 256, (a0_4) % 256] : List Int)) (inner := [.int .u8 ((a0_4 / 256) % 256), .int .u8 ((a0_4) % 256)]) (ok := fun _ => True) (okp := fun _ => True) ?hr ?hp (fun _ hk => hk) trivial (Below.refl _ _) (Nat.le_refl _) (by simp) ?_; (case hd => rfl); (case hg => rfl); (case hr => first | (go_simp; done) | (go_simp; rfl)); (case hp => exact (Reps.one (show Kd.M (Kd.int .u8) _ _ _ ((a0_4 / 256) % 256) [.int .u8 ((a0_4 / 256) % 256)] from rfl) (Reps.one (show Kd.M (Kd.int .u8) _ _ _ ((a0_4) % 256) [.int .u8 ((a0_4) % 256)] from rfl) (Reps.none _ _)))); intro v248 w19 ho20 hb hg_ hnew_; clear hg_ hnew_; (first | rw [← Ny247.out] at ho20 | (simp only [Int.reduceToNat] at ho20; rw [← Ny247.out] at ho20)); have HO249 := A0_.mk (Kd.R_lower (Kd.R_new' ho20 (Kd.R_lt (by (with_reducible repeat (first | apply Kd.R_alloc | apply Kd.R_drewN | apply Kd.R_drew)); exact HO246.out))) (wZ SQ.bw)); replace HO246 := A0_.mk (Kd.R_elder' (by (with_reducible repeat (first | apply Kd.R_alloc | apply Kd.R_drewN | apply Kd.R_drew)); exact HO246.out) (Kd.R_base ho20) hb); replace BK242 := A0_.mk (bB (g := gb242) SQ.kw hb); replace HB := A0_.mk (wT SQ.bw hb); clear hb ho20; have hcv21 := own_string (P := Tryd.prog) Tryd.underlying42 Tryd.underlying5 Tryd.underlying9 (Kd.own_of_R HO249.out); obtain ⟨hcz22_0, hcz22_1, hcz22_2, hcz22_3, hcz22_4, hcz22_5, hfz22_0, hfz22_1, hfz22_2, hfz22_3, hfz22_4, hfz22_5⟩ := SQ.cs6 BK242.out) | ((with_reducible refine gD (N := 34) rfl ?_); refine Kd.R_lit (Kd.int .u8) _ 5 ?hg (N := 34) ?hd (xs := ([1, ((a0_3.size : Int)) % 256] : List Int)) (inner := [.int .u8 1, .int .u8 (((a0_3.size : Int)) % 256)]) (ok := fun _ => True) (okp := fun _ => True) ?hr ?hp (fun _ hk => hk) trivial (Below.refl _ _) (Nat.le_refl _) (by simp) ?_; (case hd => rfl); (case hg => rfl); (case hr => first | (go_simp; done) | (go_simp; rfl)); (case hp => exact (Reps.one (show Kd.M (Kd.int .u8) _ _ _ 1 [.int .u8 1] from rfl) (Reps.one (show Kd.M (Kd.int .u8) _ _ _ (((a0_3.size : Int)) % 256) [.int .u8 (((a0_3.size : Int)) % 256)] from rfl) (Reps.none _ _)))); intro v251 w23 ho24 hb hg_ hnew_; clear hg_ hnew_; (first | rw [← Ny250.out] at ho24 | (simp only [Int.reduceToNat] at ho24; rw [← Ny250.out] at ho24)); have HO252 := A0_.mk (Kd.R_lower (Kd.R_new' (Kd.R_new' ho24 (Kd.R_lt (by (with_reducible repeat (first | apply Kd.R_alloc | apply Kd.R_drewN | apply Kd.R_drew)); exact HO246.out))) (Kd.R_lt (by (with_reducible repeat (first | apply Kd.R_alloc | apply Kd.R_drewN | apply Kd.R_drew)); exact HO249.out))) (wZ SQ.bw)); replace HO246 := A0_.mk (Kd.R_elder' (by (with_reducible repeat (first | apply Kd.R_alloc | apply Kd.R_drewN | apply Kd.R_drew)); exact HO246.out) (Kd.R_base ho24) hb); replace HO249 := A0_.mk (Kd.R_elder' (by (with_reducible repeat (first | apply Kd.R_alloc | apply Kd.R_drewN | apply Kd.R_drew)); exact HO249.out) (Kd.R_base ho24) hb); replace BK242 := A0_.mk (bB (g := gb242) SQ.kw hb); replace HB := A0_.mk (wT SQ.bw hb); clear hb ho24; have hcv25 := own_string (P := Tryd.prog) Tryd.underlying42 Tryd.underlying5 Tryd.underlying9 (Kd.own_of_R HO252.out); obtain ⟨hcz26_0, hcz26_1, hcz26_2, hcz26_3, hcz26_4, hcz26_5, hfz26_0, hfz26_1, hfz26_2, hfz26_3, hfz26_4, hfz26_5⟩ := SQ.cs6 BK242.out))
     go_meet
     case rel => exact ⟨_, (((strOfNums y244) ++ (strOfNums y247)) ++ ((strOfNums y250) ++ a0_3)), (by first | rfl | (simp; done) | (simp [*]; done)), H', ⟨by first | omega | exact Nat.le_refl _⟩, ⟨SQ.kw⟩, ⟨SQ.bw⟩⟩
    ·replace c15 := Bool.eq_false_iff.mpr c15
     subst c15
     rw [if_neg (show ¬ (false = true) by decide)] at H
     by_cases c27 : ((strOfNums y244) ++ (strOfNums y247)).size + 1 ≤ 9223372036854775807
     rotate_left
     ·rw [if_neg c27] at H
      exact absurd H (by simp)
     rw [if_pos c27] at H
     have c27b0 := eq_true c27
     have c27b1 : decide (((strOfNums y244) ++ (strOfNums y247)).size + 1 ≤ 9223372036854775807) = true := decide_eq_true c27
     try have c27b2 : (9223372036854775807 < ((strOfNums y244) ++ (strOfNums y247)).size + 1) = False := eq_false (Nat.not_lt.2 c27)
     have c27z9 := c27b2
     try simp only [ByteArray.size_append] at c27z9
     try have c27z8 : ¬ _ := of_eq_false c27z9
     have H' := A0_.mk H
     clear H
     obtain ⟨hcz28_0, hcz28_1, hcz28_2, hcz28_3, hcz28_4, hcz28_5, hfz28_0, hfz28_1, hfz28_2, hfz28_3, hfz28_4, hfz28_5⟩ := SQ.cs6 BK242.out
     go_wp2_with (first | ((with_reducible refine gD (N := 24) rfl ?_); refine Kd.R_lit (Kd.int .u8) _ 5 ?hg (N := 24) ?hd (xs := ([(a0_4 / 256) % 256, (a0_4) % 256] : List Int)) (inner := [.int .u8 ((a0_4 / 256) % 256), .int .u8 ((a0_4) % 256)]) (ok := fun _ => True) (okp := fun _ => True) ?hr ?hp (fun _ hk => hk) trivial (Below.refl _ _) (Nat.le_refl _) (by simp) ?_; (case hd => rfl); (case hg => rfl); (case hr => first | (go_simp; done) | (go_simp; rfl)); (case hp => exact (Reps.one (show Kd.M (Kd.int .u8) _ _ _ ((a0_4 / 256) % 256) [.int .u8 ((a0_4 / 256) % 256)] from rfl) (Reps.one (show Kd.M (Kd.int .u8) _ _ _ ((a0_4) % 256) [.int .u8 ((a0_4) % 256)] from rfl) (Reps.none _ _)))); intro v248 w29 ho30 hb hg_ hnew_; clear hg_ hnew_; (first | rw [← Ny247.out] at ho30 | (simp only [Int.reduceToNat] at ho30; rw [← Ny247.out] at ho30)); have HO249 := A0_.mk (Kd.R_lower (Kd.R_new' ho30 (Kd.R_lt (by (with_reducible repeat (first | apply Kd.R_alloc | apply Kd.R_drewN | apply Kd.R_drew)); exact HO246.out))) (wZ SQ.bw)); replace HO246 := A0_.mk (Kd.R_elder' (by (with_reducible repeat (first | apply Kd.R_alloc | apply Kd.R_drewN | apply Kd.R_drew)); exact HO246.out) (Kd.R_base ho30) hb); replace BK242 := A0_.mk (bB (g := gb242) SQ.kw hb); replace HB := A0_.mk (wT SQ.bw hb); clear hb ho30; have hcv31 := own_string (P := Tryd.prog) Tryd.underlying42 Tryd.underlying5 Tryd.underlying9 (Kd.own_of_R HO249.out); obtain ⟨hcz32_0, hcz32_1, hcz32_2, hcz32_3, hcz32_4, hcz32_5, hfz32_0, hfz32_1, hfz32_2, hfz32_3, hfz32_4, hfz32_5⟩ := SQ.cs6 BK242.out))
     go_meet
     case rel => exact ⟨_, (((strOfNums y244) ++ (strOfNums y247)) ++ (⟨#[0]⟩ : ByteArray)), (by first | rfl | (simp; done) | (simp [*]; done)), H', ⟨by first | omega | exact Nat.le_refl _⟩, ⟨SQ.kw⟩, ⟨SQ.bw⟩⟩
   ·rw [if_neg c13] at H
    have c13b0 : (a0_0 == 3) = false := beq_eq_false_iff_ne.mpr c13
    have c13b1 : (a0_0 != 3) = true := bne_iff_ne.mpr c13
    (first | rw [c13b0] | (simp only [i64_w, i32_w]; rw [c13b0]) | skip)
    replace H := Option.bind_eq_some_iff.mp H
    obtain ⟨⟨t253, t254⟩, A330, H⟩ := H
    try dsimp only at H
    have A33 := A0_.mk A330
    clear A330
    by_cases c34 : (strOfNums y244).size + t253.size ≤ 9223372036854775807
    rotate_left
    ·rw [if_neg c34] at H
     exact absurd H (by simp)
    rw [if_pos c34] at H
    have c34b0 := eq_true c34
    have c34b1 : decide ((strOfNums y244).size + t253.size ≤ 9223372036854775807) = true := decide_eq_true c34
    try have c34b2 : (9223372036854775807 < (strOfNums y244).size + t253.size) = False := eq_false (Nat.not_lt.2 c34)
    by_cases c35 : a0_0 = 1
    ·rw [if_pos c35] at H
     have c35b0 : (a0_0 == 1) = true := beq_iff_eq.mpr c35
     have c35b1 : (a0_0 != 1) = false := bne_eq_false_iff_eq.mpr c35
     clear c35
     obtain ⟨y255, hy255⟩ : ∃ y_ : List Int, y_ = (([((a0_3.size : Int)) % 256] : List Int)) := ⟨_, rfl⟩
     replace H : (if (strOfNums y255).size + a0_3.size ≤ 9223372036854775807 then (if ((strOfNums y244) ++ t253).size + ((strOfNums y255) ++ a0_3).size ≤ 9223372036854775807 then (r9Encode.j0 k (((strOfNums y244) ++ t253) ++ ((strOfNums y255) ++ a0_3)) a0_0 a0_1 a0_2 a0_3 a0_4 l0_5) else (none)) else (none)) = some r := by first | (rw [hy255]; with_reducible exact H) | (have H2_ := (Option.bind_some _ _).symm.trans H; rw [hy255]; with_reducible exact H2_) | (have H2_ := (Option.bind_some _ _).symm.trans H; with_reducible exact H2_) | with_reducible exact H | (rw [hy255]; exact H) | exact H
     have Ny255 := A0_.mk hy255
     clear hy255
     by_cases c36 : (strOfNums y255).size + a0_3.size ≤ 9223372036854775807
     rotate_left
     ·rw [if_neg c36] at H
      exact absurd H (by simp)
     rw [if_pos c36] at H
     have c36b0 := eq_true c36
     have c36b1 : decide ((strOfNums y255).size + a0_3.size ≤ 9223372036854775807) = true := decide_eq_true c36
     try have c36b2 : (9223372036854775807 < (strOfNums y255).size + a0_3.size) = False := eq_false (Nat.not_lt.2 c36)
     by_cases c37 : ((strOfNums y244) ++ t253).size + ((strOfNums y255) ++ a0_3).size ≤ 9223372036854775807
     rotate_left
     ·rw [if_neg c37] at H
      exact absurd H (by simp)
     rw [if_pos c37] at H
     have c37b0 := eq_true c37
     have c37b1 : decide (((strOfNums y244) ++ t253).size + ((strOfNums y255) ++ a0_3).size ≤ 9223372036854775807) = true := decide_eq_true c37
     try have c37b2 : (9223372036854775807 < ((strOfNums y244) ++ t253).size + ((strOfNums y255) ++ a0_3).size) = False := eq_false (Nat.not_lt.2 c37)
     have c37z9 := c37b2
     try simp only [ByteArray.size_append] at c37z9
     try have c37z8 : ¬ _ := of_eq_false c37z9
     have H' := A0_.mk H
     clear H
     obtain ⟨hcz38_0, hcz38_1, hcz38_2, hcz38_3, hcz38_4, hcz38_5, hfz38_0, hfz38_1, hfz38_2, hfz38_3, hfz38_4, hfz38_5⟩ := SQ.cs6 BK242.out
     go_wp2_with (first | ((with_reducible refine gC (f := 30) rfl ?_); refine gL (some 45) rfl rfl Tryd.func30 (by kernel_rfl) rfl #[.string a0_1] rfl SQ.sm ?_; (with_reducible refine (r2Pack.calls k a0_1 t253 t254 _ A33.out).mono ?_); rintro e w39 ⟨rfl, hb⟩; refine ⟨_, rfl, ?_⟩; replace HO246 := A0_.mk (Kd.R_below (by (with_reducible repeat (first | apply Kd.R_alloc | apply Kd.R_drewN | apply Kd.R_drew)); exact HO246.out) hb); replace BK242 := A0_.mk (bB (g := gb242) SQ.kw hb); replace HB := A0_.mk (wT SQ.bw hb); clear hb; obtain ⟨hcz40_0, hcz40_1, hcz40_2, hcz40_3, hcz40_4, hcz40_5, hfz40_0, hfz40_1, hfz40_2, hfz40_3, hfz40_4, hfz40_5⟩ := SQ.cs6 BK242.out) | ((with_reducible refine gD (N := 56) rfl ?_); refine Kd.R_lit (Kd.int .u8) _ 5 ?hg (N := 56) ?hd (xs := ([((a0_3.size : Int)) % 256] : List Int)) (inner := [.int .u8 (((a0_3.size : Int)) % 256)]) (ok := fun _ => True) (okp := fun _ => True) ?hr ?hp (fun _ hk => hk) trivial (Below.refl _ _) (Nat.le_refl _) (by simp) ?_; (case hd => rfl); (case hg => rfl); (case hr => first | (go_simp; done) | (go_simp; rfl)); (case hp => exact (Reps.one (show Kd.M (Kd.int .u8) _ _ _ (((a0_3.size : Int)) % 256) [.int .u8 (((a0_3.size : Int)) % 256)] from rfl) (Reps.none _ _))); intro v256 w41 ho42 hb hg_ hnew_; clear hg_ hnew_; (first | rw [← Ny255.out] at ho42 | (simp only [Int.reduceToNat] at ho42; rw [← Ny255.out] at ho42)); have HO257 := A0_.mk (Kd.R_lower (Kd.R_new' ho42 (Kd.R_lt (by (with_reducible repeat (first | apply Kd.R_alloc | apply Kd.R_drewN | apply Kd.R_drew)); exact HO246.out))) (wZ SQ.bw)); replace HO246 := A0_.mk (Kd.R_elder' (by (with_reducible repeat (first | apply Kd.R_alloc | apply Kd.R_drewN | apply Kd.R_drew)); exact HO246.out) (Kd.R_base ho42) hb); replace BK242 := A0_.mk (bB (g := gb242) SQ.kw hb); replace HB := A0_.mk (wT SQ.bw hb); clear hb ho42; have hcv43 := own_string (P := Tryd.prog) Tryd.underlying42 Tryd.underlying5 Tryd.underlying9 (Kd.own_of_R HO257.out); obtain ⟨hcz44_0, hcz44_1, hcz44_2, hcz44_3, hcz44_4, hcz44_5, hfz44_0, hfz44_1, hfz44_2, hfz44_3, hfz44_4, hfz44_5⟩ := SQ.cs6 BK242.out))
     go_meet
     case rel => exact ⟨_, (((strOfNums y244) ++ t253) ++ ((strOfNums y255) ++ a0_3)), (by first | rfl | (simp; done) | (simp [*]; done)), H', ⟨by first | omega | exact Nat.le_refl _⟩, ⟨SQ.kw⟩, ⟨SQ.bw⟩⟩
    ·rw [if_neg c35] at H
     have c35b0 : (a0_0 == 1) = false := beq_eq_false_iff_ne.mpr c35
     have c35b1 : (a0_0 != 1) = true := bne_iff_ne.mpr c35
     have H' := A0_.mk H
     clear H
     obtain ⟨hcz45_0, hcz45_1, hcz45_2, hcz45_3, hcz45_4, hcz45_5, hfz45_0, hfz45_1, hfz45_2, hfz45_3, hfz45_4, hfz45_5⟩ := SQ.cs6 BK242.out
     go_wp2_with (first | ((with_reducible refine gC (f := 30) rfl ?_); refine gL (some 45) rfl rfl Tryd.func30 (by kernel_rfl) rfl #[.string a0_1] rfl SQ.sm ?_; (with_reducible refine (r2Pack.calls k a0_1 t253 t254 _ A33.out).mono ?_); rintro e w46 ⟨rfl, hb⟩; refine ⟨_, rfl, ?_⟩; replace HO246 := A0_.mk (Kd.R_below (by (with_reducible repeat (first | apply Kd.R_alloc | apply Kd.R_drewN | apply Kd.R_drew)); exact HO246.out) hb); replace BK242 := A0_.mk (bB (g := gb242) SQ.kw hb); replace HB := A0_.mk (wT SQ.bw hb); clear hb; obtain ⟨hcz47_0, hcz47_1, hcz47_2, hcz47_3, hcz47_4, hcz47_5, hfz47_0, hfz47_1, hfz47_2, hfz47_3, hfz47_4, hfz47_5⟩ := SQ.cs6 BK242.out))
     go_meet
     case rel => exact ⟨_, ((strOfNums y244) ++ t253), (by first | rfl | (simp; done) | (simp [*]; done)), H', ⟨by first | omega | exact Nat.le_refl _⟩, ⟨SQ.kw⟩, ⟨SQ.bw⟩⟩
  case rest =>
   clear HC4
   try clear c1
   try clear hcv1
   try clear c2
   try clear p2
   try clear hcv2
   try clear c3
   try clear hcv3
   try clear hcv4
   try clear hcv11
   try clear c13
   try clear c13b0
   try clear c13b1
   try clear c14
   try clear c14b0
   try clear c14b1
   try clear c14b2
   try clear c15
   try clear c16
   try clear c16b0
   try clear c16b1
   try clear c16b2
   try clear c17
   try clear c17b0
   try clear c17b1
   try clear c17b2
   try clear hcv21
   try clear hcv25
   try clear c27
   try clear c27b0
   try clear c27b1
   try clear c27b2
   try clear c30
   try clear hcv31
   try clear c34
   try clear c34b0
   try clear c34b1
   try clear c34b2
   try clear c35
   try clear c35b0
   try clear c35b1
   try clear c36
   try clear c36b0
   try clear c36b1
   try clear c36b2
   try clear c37
   try clear c37b0
   try clear c37b1
   try clear c37b2
   try clear hcv43
   try clear hcz12_0
   try clear hcz12_1
   try clear hcz12_2
   try clear hcz12_3
   try clear hcz12_4
   try clear hcz12_5
   try clear hcz18_0
   try clear hcz18_1
   try clear hcz18_2
   try clear hcz18_3
   try clear hcz18_4
   try clear hcz18_5
   try clear hcz22_0
   try clear hcz22_1
   try clear hcz22_2
   try clear hcz22_3
   try clear hcz22_4
   try clear hcz22_5
   try clear hcz26_0
   try clear hcz26_1
   try clear hcz26_2
   try clear hcz26_3
   try clear hcz26_4
   try clear hcz26_5
   try clear hcz28_0
   try clear hcz28_1
   try clear hcz28_2
   try clear hcz28_3
   try clear hcz28_4
   try clear hcz28_5
   try clear hcz32_0
   try clear hcz32_1
   try clear hcz32_2
   try clear hcz32_3
   try clear hcz32_4
   try clear hcz32_5
   try clear hcz38_0
   try clear hcz38_1
   try clear hcz38_2
   try clear hcz38_3
   try clear hcz38_4
   try clear hcz38_5
   try clear hcz40_0
   try clear hcz40_1
   try clear hcz40_2
   try clear hcz40_3
   try clear hcz40_4
   try clear hcz40_5
   try clear hcz44_0
   try clear hcz44_1
   try clear hcz44_2
   try clear hcz44_3
   try clear hcz44_4
   try clear hcz44_5
   try clear hcz45_0
   try clear hcz45_1
   try clear hcz45_2
   try clear hcz45_3
   try clear hcz45_4
   try clear hcz45_5
   try clear hcz47_0
   try clear hcz47_1
   try clear hcz47_2
   try clear hcz47_3
   try clear hcz47_4
   try clear hcz47_5
   try clear hcz6_0
   try clear hcz6_1
   try clear hcz6_2
   try clear hcz6_3
   try clear hcz6_4
   try clear hcz6_5
   try clear hcz8_0
   try clear hcz8_1
   try clear hcz8_2
   try clear hcz8_3
   try clear hcz8_4
   try clear hcz8_5
   try clear hfz12_0
   try clear hfz12_1
   try clear hfz12_2
   try clear hfz12_3
   try clear hfz12_4
   try clear hfz12_5
   try clear hfz18_0
   try clear hfz18_1
   try clear hfz18_2
   try clear hfz18_3
   try clear hfz18_4
   try clear hfz18_5
   try clear hfz22_0
   try clear hfz22_1
   try clear hfz22_2
   try clear hfz22_3
   try clear hfz22_4
   try clear hfz22_5
   try clear hfz26_0
   try clear hfz26_1
   try clear hfz26_2
   try clear hfz26_3
   try clear hfz26_4
   try clear hfz26_5
   try clear hfz28_0
   try clear hfz28_1
   try clear hfz28_2
   try clear hfz28_3
   try clear hfz28_4
   try clear hfz28_5
   try clear hfz32_0
   try clear hfz32_1
   try clear hfz32_2
   try clear hfz32_3
   try clear hfz32_4
   try clear hfz32_5
   try clear hfz38_0
   try clear hfz38_1
   try clear hfz38_2
   try clear hfz38_3
   try clear hfz38_4
   try clear hfz38_5
   try clear hfz40_0
   try clear hfz40_1
   try clear hfz40_2
   try clear hfz40_3
   try clear hfz40_4
   try clear hfz40_5
   try clear hfz44_0
   try clear hfz44_1
   try clear hfz44_2
   try clear hfz44_3
   try clear hfz44_4
   try clear hfz44_5
   try clear hfz45_0
   try clear hfz45_1
   try clear hfz45_2
   try clear hfz45_3
   try clear hfz45_4
   try clear hfz45_5
   try clear hfz47_0
   try clear hfz47_1
   try clear hfz47_2
   try clear hfz47_3
   try clear hfz47_4
   try clear hfz47_5
   try clear hfz6_0
   try clear hfz6_1
   try clear hfz6_2
   try clear hfz6_3
   try clear hfz6_4
   try clear hfz6_5
   try clear hfz8_0
   try clear hfz8_1
   try clear hfz8_2
   try clear hfz8_3
   try clear hfz8_4
   try clear hfz8_5
   obtain ⟨kq, x3_3, rfl, HA, HJ3, BK242, HB⟩ := hcut
   cases kq with
   | zero => exact absurd HA.out (by simp [r9Encode.j0])
   | succ kj3 =>
    have H := HA.out
    clear HA
    simp only [r9Encode.j0] at H
    have H' := A0_.mk H
    clear H
    go_wp2
    go_loopg [3, 4] kj3 (fun kq v3 v4 w' => ∃ (x3_2 : ByteArray) (x4_2 : Int), v3 = .string x3_2 ∧ v4 = .int .i64 x4_2 ∧ A0_ (r9Encode.l0 kq x3_2 x4_2 a0_0 a0_1 a0_2 a0_3 a0_4 l0_5 = some r) ∧ A0_ (kq ≤ kj3) ∧ A0_ (w'.heap[gb242]? = some (.cells #[.int .i64 a0_0, .string a0_1, .bool a0_2, .string a0_3, .int .i64 a0_4, (.slice A0_5 l0_5.length c0_5)] 24 (0, 0))) ∧ A0_ (Below w.heap.size w w'))
    case atStart => exact ⟨(x3_3), (0), (by first | rfl | (simp; done) | (simp [*]; done)), (by first | rfl | (simp; done) | (simp [*]; done)), H', ⟨Nat.le_refl _⟩, ⟨SQ.kw⟩, ⟨SQ.bw⟩⟩
    case round =>
     clear H'
     try clear c1
     try clear hcv1
     try clear c2
     try clear p2
     try clear hcv2
     try clear c3
     try clear hcv3
     try clear hcv4
     try clear hcv11
     try clear c13
     try clear c13b0
     try clear c13b1
     try clear c14
     try clear c14b0
     try clear c14b1
     try clear c14b2
     try clear c15
     try clear c16
     try clear c16b0
     try clear c16b1
     try clear c16b2
     try clear c17
     try clear c17b0
     try clear c17b1
     try clear c17b2
     try clear hcv21
     try clear hcv25
     try clear c27
     try clear c27b0
     try clear c27b1
     try clear c27b2
     try clear c30
     try clear hcv31
     try clear c34
     try clear c34b0
     try clear c34b1
     try clear c34b2
     try clear c35
     try clear c35b0
     try clear c35b1
     try clear c36
     try clear c36b0
     try clear c36b1
     try clear c36b2
     try clear c37
     try clear c37b0
     try clear c37b1
     try clear c37b2
     try clear hcv43
     try clear hcz12_0
     try clear hcz12_1
     try clear hcz12_2
     try clear hcz12_3
     try clear hcz12_4
     try clear hcz12_5
     try clear hcz18_0
     try clear hcz18_1
     try clear hcz18_2
     try clear hcz18_3
     try clear hcz18_4
     try clear hcz18_5
     try clear hcz22_0
     try clear hcz22_1
     try clear hcz22_2
     try clear hcz22_3
     try clear hcz22_4
     try clear hcz22_5
     try clear hcz26_0
     try clear hcz26_1
     try clear hcz26_2
     try clear hcz26_3
     try clear hcz26_4
     try clear hcz26_5
     try clear hcz28_0
     try clear hcz28_1
     try clear hcz28_2
     try clear hcz28_3
     try clear hcz28_4
     try clear hcz28_5
     try clear hcz32_0
     try clear hcz32_1
     try clear hcz32_2
     try clear hcz32_3
     try clear hcz32_4
     try clear hcz32_5
     try clear hcz38_0
     try clear hcz38_1
     try clear hcz38_2
     try clear hcz38_3
     try clear hcz38_4
     try clear hcz38_5
     try clear hcz40_0
     try clear hcz40_1
     try clear hcz40_2
     try clear hcz40_3
     try clear hcz40_4
     try clear hcz40_5
     try clear hcz44_0
     try clear hcz44_1
     try clear hcz44_2
     try clear hcz44_3
     try clear hcz44_4
     try clear hcz44_5
     try clear hcz45_0
     try clear hcz45_1
     try clear hcz45_2
     try clear hcz45_3
     try clear hcz45_4
     try clear hcz45_5
     try clear hcz47_0
     try clear hcz47_1
     try clear hcz47_2
     try clear hcz47_3
     try clear hcz47_4
     try clear hcz47_5
     try clear hcz6_0
     try clear hcz6_1
     try clear hcz6_2
     try clear hcz6_3
     try clear hcz6_4
     try clear hcz6_5
     try clear hcz8_0
     try clear hcz8_1
     try clear hcz8_2
     try clear hcz8_3
     try clear hcz8_4
     try clear hcz8_5
     try clear hfz12_0
     try clear hfz12_1
     try clear hfz12_2
     try clear hfz12_3
     try clear hfz12_4
     try clear hfz12_5
     try clear hfz18_0
     try clear hfz18_1
     try clear hfz18_2
     try clear hfz18_3
     try clear hfz18_4
     try clear hfz18_5
     try clear hfz22_0
     try clear hfz22_1
     try clear hfz22_2
     try clear hfz22_3
     try clear hfz22_4
     try clear hfz22_5
     try clear hfz26_0
     try clear hfz26_1
     try clear hfz26_2
     try clear hfz26_3
     try clear hfz26_4
     try clear hfz26_5
     try clear hfz28_0
     try clear hfz28_1
     try clear hfz28_2
     try clear hfz28_3
     try clear hfz28_4
     try clear hfz28_5
     try clear hfz32_0
     try clear hfz32_1
     try clear hfz32_2
     try clear hfz32_3
     try clear hfz32_4
     try clear hfz32_5
     try clear hfz38_0
     try clear hfz38_1
     try clear hfz38_2
     try clear hfz38_3
     try clear hfz38_4
     try clear hfz38_5
     try clear hfz40_0
     try clear hfz40_1
     try clear hfz40_2
     try clear hfz40_3
     try clear hfz40_4
     try clear hfz40_5
     try clear hfz44_0
     try clear hfz44_1
     try clear hfz44_2
     try clear hfz44_3
     try clear hfz44_4
     try clear hfz44_5
     try clear hfz45_0
     try clear hfz45_1
     try clear hfz45_2
     try clear hfz45_3
     try clear hfz45_4
     try clear hfz45_5
     try clear hfz47_0
     try clear hfz47_1
     try clear hfz47_2
     try clear hfz47_3
     try clear hfz47_4
     try clear hfz47_5
     try clear hfz6_0
     try clear hfz6_1
     try clear hfz6_2
     try clear hfz6_3
     try clear hfz6_4
     try clear hfz6_5
     try clear hfz8_0
     try clear hfz8_1
     try clear hfz8_2
     try clear hfz8_3
     try clear hfz8_4
     try clear hfz8_5
     try clear p2
     obtain ⟨x3_2, x4_2, rfl, rfl, HA, HK2, BK242, HB⟩ := hrel
     cases gk with
     | zero => exact absurd HA.out (by simp [r9Encode.l0])
     | succ k2 =>
      have H := HA.out
      clear HA
      simp only [r9Encode.l0] at H
      by_cases c48 : x4_2 < (l0_5.length : Int)
      ·rw [if_pos c48] at H
       have c48b0 : decide (x4_2 < (l0_5.length : Int)) = true := decide_eq_true c48
       clear c48
       by_cases c49 : 0 ≤ x4_2
       rotate_left
       ·rw [if_neg c49] at H
        exact absurd H (by simp)
       rw [if_pos c49] at H
       have c49b0 : decide (0 ≤ x4_2) = true := decide_eq_true c49
       clear c49
       by_cases c50 : x3_2.size + (rdOf ByteArray.empty l0_5 x4_2).size ≤ 9223372036854775807
       rotate_left
       ·rw [if_neg c50] at H
        exact absurd H (by simp)
       rw [if_pos c50] at H
       have c50b0 := eq_true c50
       have c50b1 : decide (x3_2.size + (rdOf ByteArray.empty l0_5 x4_2).size ≤ 9223372036854775807) = true := decide_eq_true c50
       try have c50b2 : (9223372036854775807 < x3_2.size + (rdOf ByteArray.empty l0_5 x4_2).size) = False := eq_false (Nat.not_lt.2 c50)
       have H' := A0_.mk H
       clear H
       obtain ⟨hcz51_0, hcz51_1, hcz51_2, hcz51_3, hcz51_4, hcz51_5, hfz51_0, hfz51_1, hfz51_2, hfz51_3, hfz51_4, hfz51_5⟩ := SQ.cs6 BK242.out
       have p258 : 0 ≤ (x4_2 : Int) := SQ.da
       have q258 : x4_2 < (l0_5.length : Int) := SQ.da
       obtain ⟨ad258, e258, hx258_0⟩ := Kd.at_string HR0_5.out x4_2 p258 q258
       cases e258
       replace hx258_0 := (HB.out.cell (World.block_lt_of_cell? w _ hx258_0)).trans hx258_0
       replace p258 := eq_true p258
       replace q258 := eq_true q258
       go_wp2
       go_roundg k2
       case measure => have := HJ3.out; have := HK2.out; omega
       case rel => exact ⟨(x3_2 ++ (rdOf ByteArray.empty l0_5 x4_2)), (wrap64 (x4_2 + 1)), (by first | rfl | (simp; done) | (simp [*]; done)), (by first | rfl | (simp; done) | (simp [*]; done)), H', ⟨by have := HJ3.out; have := HK2.out; omega⟩, ⟨SQ.kw⟩, ⟨SQ.bw⟩⟩
      ·rw [if_neg c48] at H
       have c48b0 : decide (x4_2 < (l0_5.length : Int)) = false := decide_eq_false c48
       clear c48
       obtain rfl := Option.some.inj H
       obtain ⟨hcz52_0, hcz52_1, hcz52_2, hcz52_3, hcz52_4, hcz52_5, hfz52_0, hfz52_1, hfz52_2, hfz52_3, hfz52_4, hfz52_5⟩ := SQ.cs6 BK242.out
       go_wp2
       go_ret
       exact ⟨SQ.er, SQ.bw⟩
 ·replace c3 := Bool.eq_false_iff.mpr c3
  subst c3
  rw [if_neg (show ¬ (false = true) by decide)] at H
  obtain rfl := Option.some.inj H
  go_enter Tryd.func15, Tryd.ntmps15
  go_wp2_with (first | ((with_reducible refine gD (N := 1) rfl ?_); refine xE ?hg (N := 1) ?hd (cs := #[.int .i64 a0_0, .string a0_1, .bool a0_2, .string a0_3, .int .i64 a0_4, .slice A0_5 l0_5.length c0_5]) (t := 24) ?hr ?_; (case hd => rfl); (case hg => rfl); (case hr => first | (go_simp; done) | (go_simp; rfl)); intro gb242 hg w53 hbox hb; have BK242 := A0_.mk (hbox); have GW242 := A0_.mk ((by rw [hg]; exact (wZ SQ.bw) : w.heap.size ≤ gb242)); have GE242 := A0_.mk ((by rw [hg]; exact (wZ SQ.bw) : w.heap.size ≤ gb242)); replace HB := A0_.mk (wT SQ.bw hb); clear hb hbox hg; obtain ⟨hcz54_0, hcz54_1, hcz54_2, hcz54_3, hcz54_4, hcz54_5, hfz54_0, hfz54_1, hfz54_2, hfz54_3, hfz54_4, hfz54_5⟩ := SQ.cs6 BK242.out) | ((with_reducible refine gC (f := 14) rfl ?_); refine gL (some 6) rfl rfl Tryd.func14 (by kernel_rfl) rfl #[.agg #[.int .i64 a0_0, .string a0_1, .bool a0_2, .string a0_3, .int .i64 a0_4, .slice A0_5 l0_5.length c0_5]] rfl SQ.sm ?_; (with_reducible refine (r9Good.calls k a0_0 a0_1 a0_2 a0_3 a0_4 _ _ l0_5 false _ ?side1 ?side2 A2.out).mono ?_); (case side1 => repeat (first | exact (Kd.C_below HR0_5.out HB.out) | (with_reducible refine Kd.C_alloc ?_ _) | (with_reducible refine Kd.C_drewN ?_ _) | (with_reducible refine Kd.C_drew ?_))); (case side2 => exact HC0_5.out); rintro e w55 ⟨rfl, hb⟩; refine ⟨_, rfl, ?_⟩; replace BK242 := A0_.mk (bB (g := gb242) SQ.kw hb); replace HB := A0_.mk (wT SQ.bw hb); clear hb))
  go_ret
  exact ⟨SQ.er, SQ.bw⟩

end Go.Proofs.YtklakmooaffjpaaDoor.PNod
end
