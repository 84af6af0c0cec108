-- Written by a program of this session for this seat. Not trusted: Lean checks it.
import Derived.Test.YtklakmooaffjpaaDoorSQ
import Derived.Test.YtklakmooaffjpaaDoorPNodx0
import Derived.Test.YtklakmooaffjpaaDoorPNodx10
import Derived.Test.YtklakmooaffjpaaDoorPNodx11
namespace Go.Proofs.YtklakmooaffjpaaDoor.PNod
open Go.RowKit Go.Proofs.YtklakmooaffjpaaDoorW.PrintWords Go.Proofs.YtklakmooaffjpaaDoorW.PrintLast Go.Proofs.YtklakmooaffjpaaDoorW.PrintMore
attribute [local go_sem] undef max2_int min2_int max_two min_two max_three min_three max_four min_four   -- for this text's walks alone
set_option linter.unusedVariables false
set_option linter.unusedSimpArgs false
open Go.Proofs.YtklakmooaffjpaaDoor.HW Go.Proofs.YtklakmooaffjpaaDoor.DgsB

/-! ### r9Decode: function 12 -/
mutual
def r9Decode.j0 : Nat → ByteArray → Int → Bool → Int → ByteArray → Bool → ByteArray → Int → Option (Int × ByteArray × Bool × ByteArray × Int × List ByteArray × Bool)
 | 0, _, _, _, _, _, _, _, _ => none
 | k + 1, x0, x4, x5, x272000, x272001, x272002, x272003, x272004 => if x5 = true then (if x4 ≥ (x0.size : Int) then (some (0, (⟨#[]⟩ : ByteArray), false, (⟨#[]⟩ : ByteArray), 0, ([] : List ByteArray), false)) else (if 0 ≤ x4 then (if x4 < (x0.size : Int) then (if (wrap64 ((wrap64 (x4 + 1)) + (wrap64 (bt x0 x4)))) > (x0.size : Int) then (some (0, (⟨#[]⟩ : ByteArray), false, (⟨#[]⟩ : ByteArray), 0, ([] : List ByteArray), false)) else (if 0 ≤ (wrap64 (x4 + 1)) then (if (wrap64 (x4 + 1)) ≤ (wrap64 ((wrap64 (x4 + 1)) + (wrap64 (bt x0 x4)))) then (if (wrap64 ((wrap64 (x4 + 1)) + (wrap64 (bt x0 x4)))) ≤ (x0.size : Int) then (r9Decode.j1 k x0 (wrap64 (x4 + (wrap64 (1 + (wrap64 (bt x0 x4)))))) x272000 x272001 true (x0.extract ((wrap64 (x4 + 1)) : Int).toNat ((wrap64 ((wrap64 (x4 + 1)) + (wrap64 (bt x0 x4)))) : Int).toNat) x272004) else (none)) else (none)) else (none))) else (none)) else (none))) else (r9Decode.j1 k x0 x4 x272000 x272001 x272002 x272003 x272004)
def r9Decode.j1 : Nat → ByteArray → Int → Int → ByteArray → Bool → ByteArray → Int → Option (Int × ByteArray × Bool × ByteArray × Int × List ByteArray × Bool)
 | 0, _, _, _, _, _, _, _ => none
 | k + 1, x0, x4, x272000, x272001, x272002, x272003, x272004 => if x272000 = 2 then (r9Decode.j2 k x0 x4 x272000 x272001 x272002 x272003 1) else (r9Decode.j2 k x0 x4 x272000 x272001 x272002 x272003 x272004)
def r9Decode.j2 : Nat → ByteArray → Int → Int → ByteArray → Bool → ByteArray → Int → Option (Int × ByteArray × Bool × ByteArray × Int × List ByteArray × Bool)
 | 0, _, _, _, _, _, _, _ => none
 | k + 1, x0, x4, x272000, x272001, x272002, x272003, x272004 => r9Decode.l0 k x0 x4 x272000 x272001 x272002 x272003 x272004 ([] : List ByteArray)
def r9Decode.l0 : Nat → ByteArray → Int → Int → ByteArray → Bool → ByteArray → Int → List ByteArray → Option (Int × ByteArray × Bool × ByteArray × Int × List ByteArray × Bool)
 | 0, _, _, _, _, _, _, _, _ => none
 | k + 1, x0, x4, x272000, x272001, x272002, x272003, x272004, x272005 => if (wrap64 (x4 + 32)) ≤ (x0.size : Int) then (if 0 ≤ x4 then (if x4 ≤ (wrap64 (x4 + 32)) then (if x272005.length < 8796093022208 then (r9Decode.l0 k x0 (wrap64 (x4 + 32)) x272000 x272001 x272002 x272003 x272004 (x272005 ++ [x0.extract (x4 : Int).toNat ((wrap64 (x4 + 32)) : Int).toNat])) else (none)) else (none)) else (none)) else ((r9Encode.f k x272000 x272001 x272002 x272003 x272004 x272005).bind fun t279 => (if t279.toList = x0.toList then (some (x272000, x272001, x272002, x272003, x272004, x272005, true)) else (some (0, (⟨#[]⟩ : ByteArray), false, (⟨#[]⟩ : ByteArray), 0, ([] : List ByteArray), false))))
end
def r9Decode.f (k : Nat) (a0 : ByteArray) : Option (Int × ByteArray × Bool × ByteArray × Int × List ByteArray × Bool) := if a0.toList = ([] : List UInt8) then (some (0, (⟨#[]⟩ : ByteArray), false, (⟨#[]⟩ : ByteArray), 0, ([] : List ByteArray), false)) else (if 0 < (a0.size : Int) then (if (wrap64 (bt a0 0)) = 3 then (if (a0.size : Int) < 4 then (some (0, (⟨#[]⟩ : ByteArray), false, (⟨#[]⟩ : ByteArray), 0, ([] : List ByteArray), false)) else (if 3 < (a0.size : Int) then (if (bt a0 3) > 1 then (some (0, (⟨#[]⟩ : ByteArray), false, (⟨#[]⟩ : ByteArray), 0, ([] : List ByteArray), false)) else (if 1 < (a0.size : Int) then (if 2 < (a0.size : Int) then (r9Decode.j0 k a0 4 ((bt a0 3) == 1) (wrap64 (bt a0 0)) (⟨#[]⟩ : ByteArray) false (⟨#[]⟩ : ByteArray) (Go.bits .or .i64 (wrap64 ((wrap64 (bt a0 1)) * 256)) (wrap64 (bt a0 2)))) else (none)) else (none))) else (none))) else (if 1 ≤ (a0.size : Int) then ((r2Unpack.f k (a0.extract 1 a0.size)).bind fun bt272 => (if bt272.2.2 = true then (r9Decode.j0 k a0 (wrap64 (1 + bt272.2.1)) ((wrap64 (bt a0 0)) == 1) (wrap64 (bt a0 0)) bt272.1 false (⟨#[]⟩ : ByteArray) 0) else (some (0, (⟨#[]⟩ : ByteArray), false, (⟨#[]⟩ : ByteArray), 0, ([] : List ByteArray), false)))) else (none))) else (none))
def r9Decode.T9 : Bool × List (List Nat × List Nat) := (true, [([], []), ([0], [0]), ([1], [1]), ([2], [2]), ([], []), ([4], [4]), ([5], [5]), ([3, 6], [3, 6]), ([0, 1, 2, 3, 4, 5, 6, 7], []), ([8, 7, 0, 1, 2, 3, 4, 5, 6, 7], [7, 8])])
def r9Decode.B9 : List Nat := [0, 1, 3, 7, 0, 16, 48, 127, 255, 511]
theorem r9Decode.tab9 : rtab .any (opsOf Tryd.f12 9) = r9Decode.T9 := by kernel_rfl
theorem r9Decode.bits9 : waitsOk r9Decode.T9.2 r9Decode.B9 = true := by kernel_rfl
def r9Decode.T21 : Bool × List (List Nat × List Nat) := (true, [([], []), ([], []), ([1], [1]), ([], []), ([3], [3]), ([], []), ([4, 5], [4, 5]), ([0, 2, 6], [0, 2, 6]), ([], []), ([8], [8]), ([0, 1, 2, 3, 4, 5, 6, 7, 8, 9], []), ([10, 7, 9, 0, 1, 2, 3, 4, 5, 6, 7, 8, 9], [7, 10])])
def r9Decode.B21 : List Nat := [0, 0, 2, 0, 8, 0, 56, 127, 0, 256, 1023, 2047]
theorem r9Decode.tab21 : rtab .any (opsOf Tryd.f12 21) = r9Decode.T21 := by kernel_rfl
theorem r9Decode.bits21 : waitsOk r9Decode.T21.2 r9Decode.B21 = true := by kernel_rfl
def r9Decode.T26 : Bool × List (List Nat × List Nat) := (true, [([], []), ([0], [0]), ([], []), ([], []), ([], []), ([4], [4]), ([2, 3, 5], [2, 3, 5]), ([6], [6]), ([1, 7], [1, 7]), ([0, 1, 2, 3, 4, 5, 6, 7, 8], []), ([9, 8, 8, 0, 1, 2, 3, 4, 5, 6, 7, 8], [8, 9])])
def r9Decode.B26 : List Nat := [0, 1, 0, 0, 0, 16, 60, 124, 255, 511, 1023]
theorem r9Decode.tab26 : rtab .any (opsOf Tryd.f12 26) = r9Decode.T26 := by kernel_rfl
theorem r9Decode.bits26 : waitsOk r9Decode.T26.2 r9Decode.B26 = true := by kernel_rfl
set_option maxHeartbeats 8000000 in
set_option maxRecDepth 100000 in
theorem r9Decode.calls (k : Nat) (a0 : ByteArray) (r1 : Int) (r2 : ByteArray) (r3 : Bool) (r4 : ByteArray) (r5 : Int) (r6 : List ByteArray) (r7 : Bool) (w : World) (h : r9Decode.f k a0 = some (r1, r2, r3, r4, r5, r6, r7)) :
  Calls Tryd.prog 12 #[.string a0] w fun e w' => ∃ v5_ : Value, e = .returned (.agg #[.int .i64 r1, .string r2, .bool r3, .string r4, .int .i64 r5, v5_, .bool r7]) ∧ Kd.R Kd.string 9 w' w.heap.size (fun _ => True) v5_ r6 ∧ Below w.heap.size w w' := by
 have hu32 := Tryd.underlying32
 have hu24 := Tryd.underlying24
 have hu48 := Tryd.underlying48
 have HB := A0_.mk (Below.refl w.heap.size w)
 have H : (if a0.toList = ([] : List UInt8) then (some (0, (⟨#[]⟩ : ByteArray), false, (⟨#[]⟩ : ByteArray), 0, ([] : List ByteArray), false)) else (if 0 < (a0.size : Int) then (if (wrap64 (bt a0 0)) = 3 then (if (a0.size : Int) < 4 then (some (0, (⟨#[]⟩ : ByteArray), false, (⟨#[]⟩ : ByteArray), 0, ([] : List ByteArray), false)) else (if 3 < (a0.size : Int) then (if (bt a0 3) > 1 then (some (0, (⟨#[]⟩ : ByteArray), false, (⟨#[]⟩ : ByteArray), 0, ([] : List ByteArray), false)) else (if 1 < (a0.size : Int) then (if 2 < (a0.size : Int) then (r9Decode.j0 k a0 4 ((bt a0 3) == 1) (wrap64 (bt a0 0)) (⟨#[]⟩ : ByteArray) false (⟨#[]⟩ : ByteArray) (Go.bits .or .i64 (wrap64 ((wrap64 (bt a0 1)) * 256)) (wrap64 (bt a0 2)))) else (none)) else (none))) else (none))) else (if 1 ≤ (a0.size : Int) then ((r2Unpack.f k (a0.extract 1 a0.size)).bind fun bt272 => (if bt272.2.2 = true then (r9Decode.j0 k a0 (wrap64 (1 + bt272.2.1)) ((wrap64 (bt a0 0)) == 1) (wrap64 (bt a0 0)) bt272.1 false (⟨#[]⟩ : ByteArray) 0) else (some (0, (⟨#[]⟩ : ByteArray), false, (⟨#[]⟩ : ByteArray), 0, ([] : List ByteArray), false)))) else (none))) else (none))) = some (r1, r2, r3, r4, r5, r6, r7) := h
 clear h
 by_cases c2 : a0.toList = ([] : List UInt8)
 ·rw [if_pos c2] at H
  have c2b0 : (a0.toList == ([] : List UInt8)) = true := beq_iff_eq.mpr c2
  have c2b1 : (a0.toList != ([] : List UInt8)) = false := bne_eq_false_iff_eq.mpr c2
  clear c2
  simp only [Option.some.injEq, Prod.mk.injEq] at H
  obtain ⟨rfl, rfl, rfl, rfl, rfl, rfl, rfl⟩ := H
  go_enter Tryd.func12, Tryd.ntmps12
  go_wp2_with (first | ((with_reducible refine gD (N := 2) rfl ?_); (try (refine gG (by rfl) ?_; dsimp only)); refine xE ?hg (N := 2) ?hd (cs := #[.int .i64 0, .string (⟨#[]⟩ : ByteArray), .bool false, .string (⟨#[]⟩ : ByteArray), .int .i64 0, .slice none 0 0, .bool false]) (t := 32) ?hr ?_; (case hd => rfl); (case hg => rfl); (case hr => first | (go_simp; done) | (go_simp; rfl)); intro gb270 hg w3 hbox hb; have BK270 := A0_.mk (hbox); have GW270 := A0_.mk ((by rw [hg]; exact (wZ SQ.bw) : w.heap.size ≤ gb270)); have GE270 := A0_.mk ((by rw [hg]; exact (wZ SQ.bw) : w.heap.size ≤ gb270)); replace HB := A0_.mk (wT SQ.bw hb); clear hb hbox hg; obtain ⟨hcz4_0, hcz4_1, hcz4_2, hcz4_3, hcz4_4, hcz4_5, hcz4_6, hfz4_0, hfz4_1, hfz4_2, hfz4_3, hfz4_4, hfz4_5, hfz4_6⟩ := SQ.cs7 BK270.out))
  refine bodyPost_ret (results_cell_row rfl _ _ gb270 32 #[.int .i64 0, .string (⟨#[]⟩ : ByteArray), .bool false, .string (⟨#[]⟩ : ByteArray), .int .i64 0, .slice none 0 0, .bool false] (0, 0) _ rfl (by (with_reducible repeat (first | refine bN ?_ _ | refine bD ?_ | refine bA ?_ _)); refine bP (cs := #[.int .i64 0, .string (⟨#[]⟩ : ByteArray), .bool false, .string (⟨#[]⟩ : ByteArray), .int .i64 0, .slice none 0 0, .bool false]) ?_ 6 _ rfl; (with_reducible repeat (first | refine bN ?_ _ | refine bD ?_ | refine bA ?_ _)); refine bP (cs := #[.int .i64 0, .string (⟨#[]⟩ : ByteArray), .bool false, .string (⟨#[]⟩ : ByteArray), .int .i64 0, .slice none 0 0, .bool false]) ?_ 5 _ rfl; (with_reducible repeat (first | refine bN ?_ _ | refine bD ?_ | refine bA ?_ _)); refine bP (cs := #[.int .i64 0, .string (⟨#[]⟩ : ByteArray), .bool false, .string (⟨#[]⟩ : ByteArray), .int .i64 0, .slice none 0 0, .bool false]) ?_ 4 _ rfl; (with_reducible repeat (first | refine bN ?_ _ | refine bD ?_ | refine bA ?_ _)); refine bP (cs := #[.int .i64 0, .string (⟨#[]⟩ : ByteArray), .bool false, .string (⟨#[]⟩ : ByteArray), .int .i64 0, .slice none 0 0, .bool false]) ?_ 3 _ rfl; (with_reducible repeat (first | refine bN ?_ _ | refine bD ?_ | refine bA ?_ _)); refine bP (cs := #[.int .i64 0, .string (⟨#[]⟩ : ByteArray), .bool false, .string (⟨#[]⟩ : ByteArray), .int .i64 0, .slice none 0 0, .bool false]) ?_ 2 _ rfl; (with_reducible repeat (first | refine bN ?_ _ | refine bD ?_ | refine bA ?_ _)); refine bP (cs := #[.int .i64 0, .string (⟨#[]⟩ : ByteArray), .bool false, .string (⟨#[]⟩ : ByteArray), .int .i64 0, .slice none 0 0, .bool false]) ?_ 1 _ rfl; (with_reducible repeat (first | refine bN ?_ _ | refine bD ?_ | refine bA ?_ _)); refine bP (cs := #[.int .i64 0, .string (⟨#[]⟩ : ByteArray), .bool false, .string (⟨#[]⟩ : ByteArray), .int .i64 0, .slice none 0 0, .bool false]) ?_ 0 _ rfl; (with_reducible repeat (first | refine bN ?_ _ | refine bD ?_ | refine bA ?_ _)); exact BK270.out) Tryd.underlying32 rfl (by kernel_rfl)) rfl ?_
  exact ⟨_, SQ.er, by first | exact Kd.R_nil _ _ _ _ _ | exact Kd.N_nil _ _ _ _ _ | exact Kd.V_nil _ _ _ _ _ | exact Kd.Q_nil _ _ _ _ _ | exact Kd.S_nil _ _ _ _ _, SQ.bw⟩
 ·rw [if_neg c2] at H
  have c2b0 : (a0.toList == ([] : List UInt8)) = false := beq_eq_false_iff_ne.mpr c2
  have c2b1 : (a0.toList != ([] : List UInt8)) = true := bne_iff_ne.mpr c2
  by_cases c5 : 0 < (a0.size : Int)
  rotate_left
  ·rw [if_neg c5] at H
   exact absurd H (by simp)
  rw [if_pos c5] at H
  have c5b0 : decide (0 < (a0.size : Int)) = true := decide_eq_true c5
  have c5b1 : decide (0 < a0.size) = true := decide_eq_true (by omega)
  clear c5
  have HC7 := A0_.mk H
  clear H
  go_enter Tryd.func12, Tryd.ntmps12
  go_upto_if 20 with (first | ((with_reducible refine gD (N := 2) rfl ?_); (try (refine gG (by rfl) ?_; dsimp only)); refine xE ?hg (N := 2) ?hd (cs := #[.int .i64 0, .string (⟨#[]⟩ : ByteArray), .bool false, .string (⟨#[]⟩ : ByteArray), .int .i64 0, .slice none 0 0, .bool false]) (t := 32) ?hr ?_; (case hd => rfl); (case hg => rfl); (case hr => first | (go_simp; done) | (go_simp; rfl)); intro gb270 hg w8 hbox hb; have BK270 := A0_.mk (hbox); have GW270 := A0_.mk ((by rw [hg]; exact (wZ SQ.bw) : w.heap.size ≤ gb270)); have GE270 := A0_.mk ((by rw [hg]; exact (wZ SQ.bw) : w.heap.size ≤ gb270)); replace HB := A0_.mk (wT SQ.bw hb); clear hb hbox hg; have p6 : 0 ≤ (0 : Int) := (by omega); have q6 : 0 < a0.size := (by have : (0 : Int) < (a0.size : Int) := SQ.da; omega); have hx6 : ∀ h : 0 < a0.size, ((a0[0]'h).toNat : Int) = bt a0 0 := bt_at a0 0; clear p6; have qi6 : (0 < (a0.size : Int)) = True := eq_true (SQ.da); replace q6 := eq_true q6) | ((with_reducible refine gD (N := 3) rfl ?_); (try (refine gG (by rfl) ?_; dsimp only)); refine xE ?hg (N := 3) ?hd (cs := #[.int .i64 0, .string (⟨#[]⟩ : ByteArray), .bool false, .string (⟨#[]⟩ : ByteArray), .int .i64 0, .slice none 0 0]) (t := 24) ?hr ?_; (case hd => rfl); (case hg => rfl); (case hr => first | (go_simp; done) | (go_simp; rfl)); intro gb271 hg w9 hbox hb; have BK271 := A0_.mk (hbox); have GW271 := A0_.mk ((by rw [hg]; exact (wZ SQ.bw) : w.heap.size ≤ gb271)); have GE271 := A0_.mk ((by rw [hg]; exact (wZ SQ.bw) : w.heap.size ≤ gb271)); have NB270_271 := A0_.mk ((by rw [hg]; exact Nat.ne_of_lt (bL (g := gb270) SQ.kw) : gb270 ≠ gb271)); have NB271_270 := A0_.mk ((by rw [hg]; exact Nat.ne_of_gt (bL (g := gb270) SQ.kw) : gb271 ≠ gb270)); replace BK270 := A0_.mk (bB (g := gb270) SQ.kw hb); replace HB := A0_.mk (wT SQ.bw hb); clear hb hbox hg; have hnb10 := NB271_270.out; have hnc10 := NB270_271.out; obtain ⟨hcz11_0, hcz11_1, hcz11_2, hcz11_3, hcz11_4, hcz11_5, hfz11_0, hfz11_1, hfz11_2, hfz11_3, hfz11_4, hfz11_5⟩ := SQ.cs6 BK271.out))
  (try simp only [Act.put, List.setIfInBounds_toArray, List.set_cons_zero, List.set_cons_succ])
  go_cut [4, 5] (fun v4 v5 wc => ∃ (kq : Nat) (x4_6 : Int) (x5_6 : Bool) (x271000_6 : Int) (x271001_6 : ByteArray) (x271002_6 : Bool) (x271003_6 : ByteArray) (x271004_6 : Int) (x271006_6 : Bool) (x272001_6 : ByteArray) (x272004_6 : Int), v4 = .int .i64 x4_6 ∧ v5 = .bool x5_6 ∧ A0_ (r9Decode.j0 kq a0 x4_6 x5_6 (wrap64 (bt a0 0)) x272001_6 false (⟨#[]⟩ : ByteArray) x272004_6 = some (r1, r2, r3, r4, r5, r6, r7)) ∧ A0_ (kq ≤ k) ∧ A0_ (wc.heap[gb270]? = some (.cells #[.int .i64 x271000_6, .string x271001_6, .bool x271002_6, .string x271003_6, .int .i64 x271004_6, (.slice none 0 0), .bool x271006_6] 32 (0, 0))) ∧ A0_ (wc.heap[gb271]? = some (.cells #[.int .i64 (wrap64 (bt a0 0)), .string x272001_6, .bool false, .string (⟨#[]⟩ : ByteArray), .int .i64 x272004_6, (.slice none 0 0)] 24 (0, 0))) ∧ A0_ (Below w.heap.size w wc))
  case first =>
   have n0_ : A0_ (((((((w9.setCell ⟨gb271, 0, none⟩ (.int .i64 (wrap64 (bt a0 0)))).setCell ⟨gb271, 1, none⟩ (.string (⟨#[]⟩ : ByteArray))).setCell ⟨gb271, 2, none⟩ (.bool false)).setCell ⟨gb271, 3, none⟩ (.string (⟨#[]⟩ : ByteArray))).setCell ⟨gb271, 4, none⟩ (.int .i64 0)).setCell ⟨gb271, 5, none⟩ (.slice none 0 0)).heap[gb270]? = some (.cells #[.int .i64 0, .string (⟨#[]⟩ : ByteArray), .bool false, .string (⟨#[]⟩ : ByteArray), .int .i64 0, .slice none 0 0, .bool false] 32 (0, 0))) := ⟨by (with_reducible repeat (first | refine bN ?_ _ | refine bD ?_ | refine bA ?_ _)); refine bR ?_ NB270_271.out _; (with_reducible repeat (first | refine bN ?_ _ | refine bD ?_ | refine bA ?_ _)); refine bR ?_ NB270_271.out _; (with_reducible repeat (first | refine bN ?_ _ | refine bD ?_ | refine bA ?_ _)); refine bR ?_ NB270_271.out _; (with_reducible repeat (first | refine bN ?_ _ | refine bD ?_ | refine bA ?_ _)); refine bR ?_ NB270_271.out _; (with_reducible repeat (first | refine bN ?_ _ | refine bD ?_ | refine bA ?_ _)); refine bR ?_ NB270_271.out _; (with_reducible repeat (first | refine bN ?_ _ | refine bD ?_ | refine bA ?_ _)); refine bR ?_ NB270_271.out _; (with_reducible repeat (first | refine bN ?_ _ | refine bD ?_ | refine bA ?_ _)); exact BK270.out⟩
   have n1_ : A0_ (((((((w9.setCell ⟨gb271, 0, none⟩ (.int .i64 (wrap64 (bt a0 0)))).setCell ⟨gb271, 1, none⟩ (.string (⟨#[]⟩ : ByteArray))).setCell ⟨gb271, 2, none⟩ (.bool false)).setCell ⟨gb271, 3, none⟩ (.string (⟨#[]⟩ : ByteArray))).setCell ⟨gb271, 4, none⟩ (.int .i64 0)).setCell ⟨gb271, 5, none⟩ (.slice none 0 0)).heap[gb271]? = some (.cells #[.int .i64 (wrap64 (bt a0 0)), .string (⟨#[]⟩ : ByteArray), .bool false, .string (⟨#[]⟩ : ByteArray), .int .i64 0, .slice none 0 0] 24 (0, 0))) := ⟨by (with_reducible repeat (first | refine bN ?_ _ | refine bD ?_ | refine bA ?_ _)); refine bP (cs := #[.int .i64 (wrap64 (bt a0 0)), .string (⟨#[]⟩ : ByteArray), .bool false, .string (⟨#[]⟩ : ByteArray), .int .i64 0, .slice none 0 0]) ?_ 5 _ rfl; (with_reducible repeat (first | refine bN ?_ _ | refine bD ?_ | refine bA ?_ _)); refine bP (cs := #[.int .i64 (wrap64 (bt a0 0)), .string (⟨#[]⟩ : ByteArray), .bool false, .string (⟨#[]⟩ : ByteArray), .int .i64 0, .slice none 0 0]) ?_ 4 _ rfl; (with_reducible repeat (first | refine bN ?_ _ | refine bD ?_ | refine bA ?_ _)); refine bP (cs := #[.int .i64 (wrap64 (bt a0 0)), .string (⟨#[]⟩ : ByteArray), .bool false, .string (⟨#[]⟩ : ByteArray), .int .i64 0, .slice none 0 0]) ?_ 3 _ rfl; (with_reducible repeat (first | refine bN ?_ _ | refine bD ?_ | refine bA ?_ _)); refine bP (cs := #[.int .i64 (wrap64 (bt a0 0)), .string (⟨#[]⟩ : ByteArray), .bool false, .string (⟨#[]⟩ : ByteArray), .int .i64 0, .slice none 0 0]) ?_ 2 _ rfl; (with_reducible repeat (first | refine bN ?_ _ | refine bD ?_ | refine bA ?_ _)); refine bP (cs := #[.int .i64 (wrap64 (bt a0 0)), .string (⟨#[]⟩ : ByteArray), .bool false, .string (⟨#[]⟩ : ByteArray), .int .i64 0, .slice none 0 0]) ?_ 1 _ rfl; (with_reducible repeat (first | refine bN ?_ _ | refine bD ?_ | refine bA ?_ _)); refine bP (cs := #[.int .i64 0, .string (⟨#[]⟩ : ByteArray), .bool false, .string (⟨#[]⟩ : ByteArray), .int .i64 0, .slice none 0 0]) ?_ 0 _ rfl; (with_reducible repeat (first | refine bN ?_ _ | refine bD ?_ | refine bA ?_ _)); exact BK271.out⟩
   have n2_ : A0_ (Below w.heap.size w ((((((w9.setCell ⟨gb271, 0, none⟩ (.int .i64 (wrap64 (bt a0 0)))).setCell ⟨gb271, 1, none⟩ (.string (⟨#[]⟩ : ByteArray))).setCell ⟨gb271, 2, none⟩ (.bool false)).setCell ⟨gb271, 3, none⟩ (.string (⟨#[]⟩ : ByteArray))).setCell ⟨gb271, 4, none⟩ (.int .i64 0)).setCell ⟨gb271, 5, none⟩ (.slice none 0 0))) := ⟨SQ.bw⟩
   (try clear BK270)
   (try clear BK271)
   (try clear HB)
   generalize ((((((w9.setCell ⟨gb271, 0, none⟩ (.int .i64 (wrap64 (bt a0 0)))).setCell ⟨gb271, 1, none⟩ (.string (⟨#[]⟩ : ByteArray))).setCell ⟨gb271, 2, none⟩ (.bool false)).setCell ⟨gb271, 3, none⟩ (.string (⟨#[]⟩ : ByteArray))).setCell ⟨gb271, 4, none⟩ (.int .i64 0)).setCell ⟨gb271, 5, none⟩ (.slice none 0 0)) = w7g at n0_ n1_ n2_ ⊢
   have BK270 := n0_
   have BK271 := n1_
   have HB := n2_
   clear n0_ n1_ n2_
   obtain ⟨hcg0, hcg1, hcg2, hcg3, hcg4, hcg5, hfg0, hfg1, hfg2, hfg3, hfg4, hfg5⟩ := SQ.cs6 BK271.out
   have H := HC7.out
   clear HC7
   by_cases c12 : (wrap64 (bt a0 0)) = 3
   ·rw [if_pos c12] at H
    have c12b0 : ((wrap64 (bt a0 0)) == 3) = true := beq_iff_eq.mpr c12
    have c12b1 : ((wrap64 (bt a0 0)) != 3) = false := bne_eq_false_iff_eq.mpr c12
    clear c12
    (first | rw [c12b0] | (simp only [i64_w, i32_w]; rw [c12b0]) | skip)
    by_cases c13 : (a0.size : Int) < 4
    ·rw [if_pos c13] at H
     have c13b0 : decide ((a0.size : Int) < 4) = true := decide_eq_true c13
     have c13b1 : decide (a0.size < 4) = true := decide_eq_true (by omega)
     clear c13
     simp only [Option.some.injEq, Prod.mk.injEq] at H
     obtain ⟨rfl, rfl, rfl, rfl, rfl, rfl, rfl⟩ := H
     have hnb14 := NB270_271.out
     have hnc14 := NB271_270.out
     obtain ⟨hcz15_0, hcz15_1, hcz15_2, hcz15_3, hcz15_4, hcz15_5, hcz15_6, hfz15_0, hfz15_1, hfz15_2, hfz15_3, hfz15_4, hfz15_5, hfz15_6⟩ := SQ.cs7 BK270.out
     go_wp2
     refine bodyPost_ret (results_cell_row rfl _ _ gb270 32 #[.int .i64 0, .string (⟨#[]⟩ : ByteArray), .bool false, .string (⟨#[]⟩ : ByteArray), .int .i64 0, .slice none 0 0, .bool false] (0, 0) _ rfl (by (with_reducible repeat (first | refine bN ?_ _ | refine bD ?_ | refine bA ?_ _)); refine bP (cs := #[.int .i64 0, .string (⟨#[]⟩ : ByteArray), .bool false, .string (⟨#[]⟩ : ByteArray), .int .i64 0, .slice none 0 0, .bool false]) ?_ 6 _ rfl; (with_reducible repeat (first | refine bN ?_ _ | refine bD ?_ | refine bA ?_ _)); refine bP (cs := #[.int .i64 0, .string (⟨#[]⟩ : ByteArray), .bool false, .string (⟨#[]⟩ : ByteArray), .int .i64 0, .slice none 0 0, .bool false]) ?_ 5 _ rfl; (with_reducible repeat (first | refine bN ?_ _ | refine bD ?_ | refine bA ?_ _)); refine bP (cs := #[.int .i64 0, .string (⟨#[]⟩ : ByteArray), .bool false, .string (⟨#[]⟩ : ByteArray), .int .i64 0, .slice none 0 0, .bool false]) ?_ 4 _ rfl; (with_reducible repeat (first | refine bN ?_ _ | refine bD ?_ | refine bA ?_ _)); refine bP (cs := #[.int .i64 0, .string (⟨#[]⟩ : ByteArray), .bool false, .string (⟨#[]⟩ : ByteArray), .int .i64 0, .slice none 0 0, .bool false]) ?_ 3 _ rfl; (with_reducible repeat (first | refine bN ?_ _ | refine bD ?_ | refine bA ?_ _)); refine bP (cs := #[.int .i64 0, .string (⟨#[]⟩ : ByteArray), .bool false, .string (⟨#[]⟩ : ByteArray), .int .i64 0, .slice none 0 0, .bool false]) ?_ 2 _ rfl; (with_reducible repeat (first | refine bN ?_ _ | refine bD ?_ | refine bA ?_ _)); refine bP (cs := #[.int .i64 0, .string (⟨#[]⟩ : ByteArray), .bool false, .string (⟨#[]⟩ : ByteArray), .int .i64 0, .slice none 0 0, .bool false]) ?_ 1 _ rfl; (with_reducible repeat (first | refine bN ?_ _ | refine bD ?_ | refine bA ?_ _)); refine bP (cs := #[.int .i64 0, .string (⟨#[]⟩ : ByteArray), .bool false, .string (⟨#[]⟩ : ByteArray), .int .i64 0, .slice none 0 0, .bool false]) ?_ 0 _ rfl; (with_reducible repeat (first | refine bN ?_ _ | refine bD ?_ | refine bA ?_ _)); exact BK270.out) Tryd.underlying32 rfl (by kernel_rfl)) rfl ?_
     exact ⟨_, SQ.er, by first | exact Kd.R_nil _ _ _ _ _ | exact Kd.N_nil _ _ _ _ _ | exact Kd.V_nil _ _ _ _ _ | exact Kd.Q_nil _ _ _ _ _ | exact Kd.S_nil _ _ _ _ _, SQ.bw⟩
    ·rw [if_neg c13] at H
     have c13b0 : decide ((a0.size : Int) < 4) = false := decide_eq_false c13
     have c13b1 : decide (a0.size < 4) = false := decide_eq_false (by omega)
     clear c13
     by_cases c16 : 3 < (a0.size : Int)
     rotate_left
     ·rw [if_neg c16] at H
      exact absurd H (by simp)
     rw [if_pos c16] at H
     have c16b0 : decide (3 < (a0.size : Int)) = true := decide_eq_true c16
     have c16b1 : decide (3 < a0.size) = true := decide_eq_true (by omega)
     clear c16
     by_cases c18 : (bt a0 3) > 1
     ·rw [if_pos c18] at H
      have c18b0 : decide (1 < (bt a0 3)) = true := decide_eq_true c18
      clear c18
      simp only [Option.some.injEq, Prod.mk.injEq] at H
      obtain ⟨rfl, rfl, rfl, rfl, rfl, rfl, rfl⟩ := H
      have p17 : 0 ≤ (3 : Int) := (by omega)
      have q17 : 3 < a0.size := (by have : (3 : Int) < (a0.size : Int) := SQ.da; omega)
      have hx17 : ∀ h : 3 < a0.size, ((a0[3]'h).toNat : Int) = bt a0 3 := bt_at a0 3
      clear p17
      have qi17 : (3 < (a0.size : Int)) = True := eq_true (SQ.da)
      replace q17 := eq_true q17
      have hnb19 := NB270_271.out
      have hnc19 := NB271_270.out
      obtain ⟨hcz20_0, hcz20_1, hcz20_2, hcz20_3, hcz20_4, hcz20_5, hcz20_6, hfz20_0, hfz20_1, hfz20_2, hfz20_3, hfz20_4, hfz20_5, hfz20_6⟩ := SQ.cs7 BK270.out
      go_wp2
      refine bodyPost_ret (results_cell_row rfl _ _ gb270 32 #[.int .i64 0, .string (⟨#[]⟩ : ByteArray), .bool false, .string (⟨#[]⟩ : ByteArray), .int .i64 0, .slice none 0 0, .bool false] (0, 0) _ rfl (by (with_reducible repeat (first | refine bN ?_ _ | refine bD ?_ | refine bA ?_ _)); refine bP (cs := #[.int .i64 0, .string (⟨#[]⟩ : ByteArray), .bool false, .string (⟨#[]⟩ : ByteArray), .int .i64 0, .slice none 0 0, .bool false]) ?_ 6 _ rfl; (with_reducible repeat (first | refine bN ?_ _ | refine bD ?_ | refine bA ?_ _)); refine bP (cs := #[.int .i64 0, .string (⟨#[]⟩ : ByteArray), .bool false, .string (⟨#[]⟩ : ByteArray), .int .i64 0, .slice none 0 0, .bool false]) ?_ 5 _ rfl; (with_reducible repeat (first | refine bN ?_ _ | refine bD ?_ | refine bA ?_ _)); refine bP (cs := #[.int .i64 0, .string (⟨#[]⟩ : ByteArray), .bool false, .string (⟨#[]⟩ : ByteArray), .int .i64 0, .slice none 0 0, .bool false]) ?_ 4 _ rfl; (with_reducible repeat (first | refine bN ?_ _ | refine bD ?_ | refine bA ?_ _)); refine bP (cs := #[.int .i64 0, .string (⟨#[]⟩ : ByteArray), .bool false, .string (⟨#[]⟩ : ByteArray), .int .i64 0, .slice none 0 0, .bool false]) ?_ 3 _ rfl; (with_reducible repeat (first | refine bN ?_ _ | refine bD ?_ | refine bA ?_ _)); refine bP (cs := #[.int .i64 0, .string (⟨#[]⟩ : ByteArray), .bool false, .string (⟨#[]⟩ : ByteArray), .int .i64 0, .slice none 0 0, .bool false]) ?_ 2 _ rfl; (with_reducible repeat (first | refine bN ?_ _ | refine bD ?_ | refine bA ?_ _)); refine bP (cs := #[.int .i64 0, .string (⟨#[]⟩ : ByteArray), .bool false, .string (⟨#[]⟩ : ByteArray), .int .i64 0, .slice none 0 0, .bool false]) ?_ 1 _ rfl; (with_reducible repeat (first | refine bN ?_ _ | refine bD ?_ | refine bA ?_ _)); refine bP (cs := #[.int .i64 0, .string (⟨#[]⟩ : ByteArray), .bool false, .string (⟨#[]⟩ : ByteArray), .int .i64 0, .slice none 0 0, .bool false]) ?_ 0 _ rfl; (with_reducible repeat (first | refine bN ?_ _ | refine bD ?_ | refine bA ?_ _)); exact BK270.out) Tryd.underlying32 rfl (by kernel_rfl)) rfl ?_
      exact ⟨_, SQ.er, by first | exact Kd.R_nil _ _ _ _ _ | exact Kd.N_nil _ _ _ _ _ | exact Kd.V_nil _ _ _ _ _ | exact Kd.Q_nil _ _ _ _ _ | exact Kd.S_nil _ _ _ _ _, SQ.bw⟩
     ·rw [if_neg c18] at H
      have c18b0 : decide (1 < (bt a0 3)) = false := decide_eq_false c18
      clear c18
      by_cases c21 : 1 < (a0.size : Int)
      rotate_left
      ·rw [if_neg c21] at H
       exact absurd H (by simp)
      rw [if_pos c21] at H
      have c21b0 : decide (1 < (a0.size : Int)) = true := decide_eq_true c21
      have c21b1 : decide (1 < a0.size) = true := decide_eq_true (by omega)
      clear c21
      by_cases c23 : 2 < (a0.size : Int)
      rotate_left
      ·rw [if_neg c23] at H
       exact absurd H (by simp)
      rw [if_pos c23] at H
      have c23b0 : decide (2 < (a0.size : Int)) = true := decide_eq_true c23
      have c23b1 : decide (2 < a0.size) = true := decide_eq_true (by omega)
      clear c23
      have H' := A0_.mk H
      clear H
      have p17 : 0 ≤ (3 : Int) := (by omega)
      have q17 : 3 < a0.size := (by have : (3 : Int) < (a0.size : Int) := SQ.da; omega)
      have hx17 : ∀ h : 3 < a0.size, ((a0[3]'h).toNat : Int) = bt a0 3 := bt_at a0 3
      clear p17
      have qi17 : (3 < (a0.size : Int)) = True := eq_true (SQ.da)
      replace q17 := eq_true q17
      try go_wp2
      have n0_ : A0_ (w7g.heap[gb270]? = some (.cells #[.int .i64 0, .string (⟨#[]⟩ : ByteArray), .bool false, .string (⟨#[]⟩ : ByteArray), .int .i64 0, .slice none 0 0, .bool false] 32 (0, 0))) := ⟨SQ.kw⟩
      have n1_ : A0_ (w7g.heap[gb271]? = some (.cells #[.int .i64 (wrap64 (bt a0 0)), .string (⟨#[]⟩ : ByteArray), .bool false, .string (⟨#[]⟩ : ByteArray), .int .i64 0, .slice none 0 0] 24 (0, 0))) := ⟨SQ.kw⟩
      have n2_ : A0_ (Below w.heap.size w w7g) := ⟨SQ.bw⟩
      (try clear BK270)
      (try clear BK271)
      (try clear HB)
      generalize w7g = w26 at n0_ n1_ n2_ ⊢
      have BK270 := n0_
      have BK271 := n1_
      have HB := n2_
      clear n0_ n1_ n2_
      replace BK270 := A0_.mk (bD BK270.out)
      replace BK271 := A0_.mk (bD BK271.out)
      replace HB := A0_.mk (wD HB.out)
      have p22 : 0 ≤ (1 : Int) := (by omega)
      have q22 : 1 < a0.size := (by have : (1 : Int) < (a0.size : Int) := SQ.da; omega)
      have hx22 : ∀ h : 1 < a0.size, ((a0[1]'h).toNat : Int) = bt a0 1 := bt_at a0 1
      clear p22
      have qi22 : (1 < (a0.size : Int)) = True := eq_true (SQ.da)
      replace q22 := eq_true q22
      have p24 : 0 ≤ (2 : Int) := (by omega)
      have q24 : 2 < a0.size := (by have : (2 : Int) < (a0.size : Int) := SQ.da; omega)
      have hx24 : ∀ h : 2 < a0.size, ((a0[2]'h).toNat : Int) = bt a0 2 := bt_at a0 2
      clear p24
      have qi24 : (2 < (a0.size : Int)) = True := eq_true (SQ.da)
      replace q24 := eq_true q24
      refine start_ (n := 10) (S := fun w' => True) (ds := []) #[false, false, false, false, false, false, false, false, false, false] (by kernel_rfl) rfl rfl trivial (fun hHeld => ?_); refine with_tabW r9Decode.tab9 r9Decode.bits9 (fun HT_ HW_ => ?_)
      generalize w26.drew = w27 at BK270 BK271 HB hHeld ⊢
      refine pure_ (i := 0) (N := some 30) (v := ?_) (a' := ?_) #[true, false, false, false, false, false, false, false, false, false] rfl rfl (any_of HT_.out (by kernel_rfl)) (fun _ _ _ h => h) (Or.inl ⟨by rfl, ?_⟩) ?_ ?_
      rotate_left
      ·intro w'
       go_simp
       with_reducible rfl
      rotate_left
      ·simp only [Act.put, List.setIfInBounds_toArray, List.set_cons_zero, List.set_cons_succ, i64_w, i32_w]
       rfl
      refine pure_ (i := 4) (N := some 34) (v := ?_) (a' := ?_) #[true, false, false, false, true, false, false, false, false, false] rfl rfl (any_of HT_.out (by kernel_rfl)) (fun _ _ _ h => h) (Or.inl ⟨by rfl, ?_⟩) ?_ ?_
      rotate_left
      ·intro w'
       go_simp
       with_reducible rfl
      rotate_left
      ·simp only [Act.put, List.setIfInBounds_toArray, List.set_cons_zero, List.set_cons_succ, i64_w, i32_w]
       rfl
      refine take_ (i := 1) (N := some 31) (v := ?_) (a' := ?_) #[true, true, false, false, true, false, false, false, false, false] rfl rfl (take_ofW HT_.out HW_.out (by kernel_rfl)) (fun _ _ _ h => h) (Or.inl ⟨by rfl, ?_⟩) hHeld ?_ ?_
      rotate_left
      ·intro w' _
       go_simp
       with_reducible rfl
      rotate_left
      ·simp only [Act.put, List.setIfInBounds_toArray, List.set_cons_zero, List.set_cons_succ, i64_w, i32_w]
       rfl
      refine pure_ (i := 2) (N := some 32) (v := ?_) (a' := ?_) #[true, true, true, false, true, false, false, false, false, false] rfl rfl (any_of HT_.out (by kernel_rfl)) (fun _ _ _ h => h) (Or.inl ⟨by rfl, ?_⟩) ?_ ?_
      rotate_left
      ·intro w'
       go_simp
       with_reducible rfl
      rotate_left
      ·simp only [Act.put, List.setIfInBounds_toArray, List.set_cons_zero, List.set_cons_succ, i64_w, i32_w]
       rfl
      refine pure_ (i := 3) (N := some 33) (v := ?_) (a' := ?_) #[true, true, true, true, true, false, false, false, false, false] rfl rfl (any_of HT_.out (by kernel_rfl)) (fun _ _ _ h => h) (Or.inl ⟨by rfl, ?_⟩) ?_ ?_
      rotate_left
      ·intro w'
       go_simp
       with_reducible rfl
      rotate_left
      ·simp only [Act.put, List.setIfInBounds_toArray, List.set_cons_zero, List.set_cons_succ, i64_w, i32_w]
       rfl
      refine take_ (i := 5) (N := some 35) (v := ?_) (a' := ?_) #[true, true, true, true, true, true, false, false, false, false] rfl rfl (take_ofW HT_.out HW_.out (by kernel_rfl)) (fun _ _ _ h => h) (Or.inl ⟨by rfl, ?_⟩) hHeld ?_ ?_
      rotate_left
      ·intro w' _
       go_simp
       with_reducible rfl
      rotate_left
      ·simp only [Act.put, List.setIfInBounds_toArray, List.set_cons_zero, List.set_cons_succ, i64_w, i32_w]
       rfl
      refine pure_ (i := 6) (N := some 36) (v := ?_) (a' := ?_) #[true, true, true, true, true, true, true, false, false, false] rfl rfl (any_of HT_.out (by kernel_rfl)) (fun _ _ _ h => h) (Or.inl ⟨by rfl, ?_⟩) ?_ ?_
      rotate_left
      ·intro w'
       go_simp
       with_reducible rfl
      rotate_left
      ·simp only [Act.put, List.setIfInBounds_toArray, List.set_cons_zero, List.set_cons_succ, i64_w, i32_w]
       rfl
      refine pure_ (i := 7) (N := some 37) (v := ?_) (a' := ?_) #[true, true, true, true, true, true, true, true, false, false] rfl rfl (any_of HT_.out (by kernel_rfl)) (fun _ _ _ h => h) (Or.inl ⟨by rfl, ?_⟩) ?_ ?_
      rotate_left
      ·intro w'
       go_simp
       with_reducible rfl
      rotate_left
      ·simp only [Act.put, List.setIfInBounds_toArray, List.set_cons_zero, List.set_cons_succ, i64_w, i32_w]
       rfl
      refine pure_ (i := 8) (N := some 38) (v := ?_) (a' := ?_) #[true, true, true, true, true, true, true, true, true, false] rfl rfl (any_of HT_.out (by kernel_rfl)) (fun _ _ _ h => h) (Or.inl ⟨by rfl, ?_⟩) ?_ ?_
      rotate_left
      ·intro w'
       go_simp
       with_reducible rfl
      rotate_left
      ·simp only [Act.put, List.setIfInBounds_toArray, List.set_cons_zero, List.set_cons_succ, i64_w, i32_w]
       rfl
      refine one_ (i := 9) (N := none) #[true, true, true, true, true, true, true, true, true, true] rfl rfl (one_of HT_.out (by kernel_rfl)) (by decide) (fun K hK => ?_)
      have hs28 : w27.cell? ⟨gb271, 4, none⟩ = some (.int .i64 0) := (bC BK271.out 4).trans rfl
      have hfs28 := bF BK271.out 4
      have hns28_0 := NB270_271.out
      have hms28_0 := NB271_270.out
      refine skip_ (w1 := ?_) (by rfl) rfl ?_ ?_
      rotate_left
      ·go_simp
       rfl
      refine hK.out _ _ trivial (fun hHeld => ?_)
      clear hK K
      refine done_ (done_of HT_.out (by kernel_rfl)) ?_
      have p25 : 0 ≤ (3 : Int) := (by omega)
      have q25 : 3 < a0.size := (by have : (3 : Int) < (a0.size : Int) := SQ.da; omega)
      have hx25 : ∀ h : 3 < a0.size, ((a0[3]'h).toNat : Int) = bt a0 3 := bt_at a0 3
      clear p25
      have qi25 : (3 < (a0.size : Int)) = True := eq_true (SQ.da)
      replace q25 := eq_true q25
      try go_wp2
      go_meet
      case rel => exact ⟨_, (4), (((bt a0 3) == 1)), (0), ((⟨#[]⟩ : ByteArray)), (false), ((⟨#[]⟩ : ByteArray)), (0), (false), ((⟨#[]⟩ : ByteArray)), (Go.bits .or .i64 (wrap64 ((wrap64 (bt a0 1)) * 256)) (wrap64 (bt a0 2))), (by first | rfl | (simp; done) | (simp [*]; done)), (by first | rfl | (simp; done) | (simp [*]; done)), H', ⟨by first | omega | exact Nat.le_refl _⟩, ⟨by (with_reducible repeat (first | refine bN ?_ _ | refine bD ?_ | refine bA ?_ _)); refine bR ?_ NB270_271.out _; (with_reducible repeat (first | refine bN ?_ _ | refine bD ?_ | refine bA ?_ _)); exact BK270.out⟩, ⟨by (with_reducible repeat (first | refine bN ?_ _ | refine bD ?_ | refine bA ?_ _)); refine bP (cs := #[.int .i64 (wrap64 (bt a0 0)), .string (⟨#[]⟩ : ByteArray), .bool false, .string (⟨#[]⟩ : ByteArray), .int .i64 0, .slice none 0 0]) ?_ 4 _ rfl; (with_reducible repeat (first | refine bN ?_ _ | refine bD ?_ | refine bA ?_ _)); exact BK271.out⟩, ⟨SQ.bw⟩⟩
   ·rw [if_neg c12] at H
    have c12b0 : ((wrap64 (bt a0 0)) == 3) = false := beq_eq_false_iff_ne.mpr c12
    have c12b1 : ((wrap64 (bt a0 0)) != 3) = true := bne_iff_ne.mpr c12
    (first | rw [c12b0] | (simp only [i64_w, i32_w]; rw [c12b0]) | skip)
    by_cases c29 : 1 ≤ (a0.size : Int)
    rotate_left
    ·rw [if_neg c29] at H
     exact absurd H (by simp)
    rw [if_pos c29] at H
    have c29b0 := eq_true c29
    have c29b1 : decide (1 ≤ (a0.size : Int)) = true := decide_eq_true c29
    clear c29
    replace H := Option.bind_eq_some_iff.mp H
    obtain ⟨⟨t272, t273, t274⟩, A300, H⟩ := H
    try dsimp only at H
    have A30 := A0_.mk A300
    clear A300
    by_cases c31 : t274 = true
    ·subst c31
     rw [if_pos rfl] at H
     have H' := A0_.mk H
     clear H
     go_wp2_with (first | ((with_reducible refine gC (f := 25) rfl ?_); refine gL (some 44) rfl rfl Tryd.func25 (by kernel_rfl) rfl #[.string (a0.extract 1 a0.size)] rfl SQ.sm ?_; (with_reducible refine (r2Unpack.calls k (a0.extract 1 a0.size) t272 t273 true _ A30.out).mono ?_); rintro e w32 ⟨rfl, hb⟩; refine ⟨_, rfl, ?_⟩; replace BK270 := A0_.mk (bB (g := gb270) SQ.kw hb); replace BK271 := A0_.mk (bB (g := gb271) SQ.kw hb); replace HB := A0_.mk (wT SQ.bw hb); clear hb) | ((with_reducible refine gD (N := 6) rfl ?_); (try (refine gG (by rfl) ?_; dsimp only)); refine xE ?hg (N := 6) ?hd (cs := #[.string (⟨#[]⟩ : ByteArray), .int .i64 0, .bool false]) (t := 48) ?hr ?_; (case hd => rfl); (case hg => rfl); (case hr => first | (go_simp; done) | (go_simp; rfl)); intro gb275 hg w33 hbox hb; have BK275 := A0_.mk (hbox); have GW275 := A0_.mk ((by rw [hg]; exact (wZ SQ.bw) : w.heap.size ≤ gb275)); have GE275 := A0_.mk ((by rw [hg]; exact (wZ SQ.bw) : w.heap.size ≤ gb275)); have NB270_275 := A0_.mk ((by rw [hg]; exact Nat.ne_of_lt (bL (g := gb270) SQ.kw) : gb270 ≠ gb275)); have NB275_270 := A0_.mk ((by rw [hg]; exact Nat.ne_of_gt (bL (g := gb270) SQ.kw) : gb275 ≠ gb270)); have NB271_275 := A0_.mk ((by rw [hg]; exact Nat.ne_of_lt (bL (g := gb271) SQ.kw) : gb271 ≠ gb275)); have NB275_271 := A0_.mk ((by rw [hg]; exact Nat.ne_of_gt (bL (g := gb271) SQ.kw) : gb275 ≠ gb271)); replace BK270 := A0_.mk (bB (g := gb270) SQ.kw hb); replace BK271 := A0_.mk (bB (g := gb271) SQ.kw hb); replace HB := A0_.mk (wT SQ.bw hb); clear hb hbox hg; have hnb34 := NB275_270.out; have hnc34 := NB270_275.out; have hnb35 := NB275_271.out; have hnc35 := NB271_275.out; obtain ⟨hcz36_0, hcz36_1, hcz36_2, hfz36_0, hfz36_1, hfz36_2⟩ := SQ.cs3 BK275.out; have hnb37 := NB271_270.out; have hnc37 := NB270_271.out; obtain ⟨hcz38_0, hcz38_1, hcz38_2, hcz38_3, hcz38_4, hcz38_5, hfz38_0, hfz38_1, hfz38_2, hfz38_3, hfz38_4, hfz38_5⟩ := SQ.cs6 BK271.out))
     go_meet
     case rel => exact ⟨_, (wrap64 (1 + t273)), (((wrap64 (bt a0 0)) == 1)), (0), ((⟨#[]⟩ : ByteArray)), (false), ((⟨#[]⟩ : ByteArray)), (0), (false), (t272), (0), (by first | rfl | (simp; done) | (simp [*]; done)), (by first | rfl | (simp; done) | (simp [*]; done)), H', ⟨by first | omega | exact Nat.le_refl _⟩, ⟨by (with_reducible repeat (first | refine bN ?_ _ | refine bD ?_ | refine bA ?_ _)); refine bR ?_ NB270_271.out _; (with_reducible repeat (first | refine bN ?_ _ | refine bD ?_ | refine bA ?_ _)); refine bR ?_ NB270_275.out _; (with_reducible repeat (first | refine bN ?_ _ | refine bD ?_ | refine bA ?_ _)); refine bR ?_ NB270_275.out _; (with_reducible repeat (first | refine bN ?_ _ | refine bD ?_ | refine bA ?_ _)); refine bR ?_ NB270_275.out _; (with_reducible repeat (first | refine bN ?_ _ | refine bD ?_ | refine bA ?_ _)); exact BK270.out⟩, ⟨by (with_reducible repeat (first | refine bN ?_ _ | refine bD ?_ | refine bA ?_ _)); refine bP (cs := #[.int .i64 (wrap64 (bt a0 0)), .string (⟨#[]⟩ : ByteArray), .bool false, .string (⟨#[]⟩ : ByteArray), .int .i64 0, .slice none 0 0]) ?_ 1 _ rfl; (with_reducible repeat (first | refine bN ?_ _ | refine bD ?_ | refine bA ?_ _)); refine bR ?_ NB271_275.out _; (with_reducible repeat (first | refine bN ?_ _ | refine bD ?_ | refine bA ?_ _)); refine bR ?_ NB271_275.out _; (with_reducible repeat (first | refine bN ?_ _ | refine bD ?_ | refine bA ?_ _)); refine bR ?_ NB271_275.out _; (with_reducible repeat (first | refine bN ?_ _ | refine bD ?_ | refine bA ?_ _)); exact BK271.out⟩, ⟨SQ.bw⟩⟩
    ·replace c31 := Bool.eq_false_iff.mpr c31
     subst c31
     rw [if_neg (show ¬ (false = true) by decide)] at H
     simp only [Option.some.injEq, Prod.mk.injEq] at H
     obtain ⟨rfl, rfl, rfl, rfl, rfl, rfl, rfl⟩ := H
     go_wp2_with (first | ((with_reducible refine gC (f := 25) rfl ?_); refine gL (some 44) rfl rfl Tryd.func25 (by kernel_rfl) rfl #[.string (a0.extract 1 a0.size)] rfl SQ.sm ?_; (with_reducible refine (r2Unpack.calls k (a0.extract 1 a0.size) t272 t273 false _ A30.out).mono ?_); rintro e w39 ⟨rfl, hb⟩; refine ⟨_, rfl, ?_⟩; replace BK270 := A0_.mk (bB (g := gb270) SQ.kw hb); replace BK271 := A0_.mk (bB (g := gb271) SQ.kw hb); replace HB := A0_.mk (wT SQ.bw hb); clear hb) | ((with_reducible refine gD (N := 6) rfl ?_); (try (refine gG (by rfl) ?_; dsimp only)); refine xE ?hg (N := 6) ?hd (cs := #[.string (⟨#[]⟩ : ByteArray), .int .i64 0, .bool false]) (t := 48) ?hr ?_; (case hd => rfl); (case hg => rfl); (case hr => first | (go_simp; done) | (go_simp; rfl)); intro gb275 hg w40 hbox hb; have BK275 := A0_.mk (hbox); have GW275 := A0_.mk ((by rw [hg]; exact (wZ SQ.bw) : w.heap.size ≤ gb275)); have GE275 := A0_.mk ((by rw [hg]; exact (wZ SQ.bw) : w.heap.size ≤ gb275)); have NB270_275 := A0_.mk ((by rw [hg]; exact Nat.ne_of_lt (bL (g := gb270) SQ.kw) : gb270 ≠ gb275)); have NB275_270 := A0_.mk ((by rw [hg]; exact Nat.ne_of_gt (bL (g := gb270) SQ.kw) : gb275 ≠ gb270)); have NB271_275 := A0_.mk ((by rw [hg]; exact Nat.ne_of_lt (bL (g := gb271) SQ.kw) : gb271 ≠ gb275)); have NB275_271 := A0_.mk ((by rw [hg]; exact Nat.ne_of_gt (bL (g := gb271) SQ.kw) : gb275 ≠ gb271)); replace BK270 := A0_.mk (bB (g := gb270) SQ.kw hb); replace BK271 := A0_.mk (bB (g := gb271) SQ.kw hb); replace HB := A0_.mk (wT SQ.bw hb); clear hb hbox hg; have hnb41 := NB275_270.out; have hnc41 := NB270_275.out; have hnb42 := NB275_271.out; have hnc42 := NB271_275.out; obtain ⟨hcz43_0, hcz43_1, hcz43_2, hfz43_0, hfz43_1, hfz43_2⟩ := SQ.cs3 BK275.out; have hnb44 := NB270_271.out; have hnc44 := NB271_270.out; obtain ⟨hcz45_0, hcz45_1, hcz45_2, hcz45_3, hcz45_4, hcz45_5, hcz45_6, hfz45_0, hfz45_1, hfz45_2, hfz45_3, hfz45_4, hfz45_5, hfz45_6⟩ := SQ.cs7 BK270.out))
     refine bodyPost_ret (results_cell_row rfl _ _ gb270 32 #[.int .i64 0, .string (⟨#[]⟩ : ByteArray), .bool false, .string (⟨#[]⟩ : ByteArray), .int .i64 0, .slice none 0 0, .bool false] (0, 0) _ rfl (by (with_reducible repeat (first | refine bN ?_ _ | refine bD ?_ | refine bA ?_ _)); refine bP (cs := #[.int .i64 0, .string (⟨#[]⟩ : ByteArray), .bool false, .string (⟨#[]⟩ : ByteArray), .int .i64 0, .slice none 0 0, .bool false]) ?_ 6 _ rfl; (with_reducible repeat (first | refine bN ?_ _ | refine bD ?_ | refine bA ?_ _)); refine bP (cs := #[.int .i64 0, .string (⟨#[]⟩ : ByteArray), .bool false, .string (⟨#[]⟩ : ByteArray), .int .i64 0, .slice none 0 0, .bool false]) ?_ 5 _ rfl; (with_reducible repeat (first | refine bN ?_ _ | refine bD ?_ | refine bA ?_ _)); refine bP (cs := #[.int .i64 0, .string (⟨#[]⟩ : ByteArray), .bool false, .string (⟨#[]⟩ : ByteArray), .int .i64 0, .slice none 0 0, .bool false]) ?_ 4 _ rfl; (with_reducible repeat (first | refine bN ?_ _ | refine bD ?_ | refine bA ?_ _)); refine bP (cs := #[.int .i64 0, .string (⟨#[]⟩ : ByteArray), .bool false, .string (⟨#[]⟩ : ByteArray), .int .i64 0, .slice none 0 0, .bool false]) ?_ 3 _ rfl; (with_reducible repeat (first | refine bN ?_ _ | refine bD ?_ | refine bA ?_ _)); refine bP (cs := #[.int .i64 0, .string (⟨#[]⟩ : ByteArray), .bool false, .string (⟨#[]⟩ : ByteArray), .int .i64 0, .slice none 0 0, .bool false]) ?_ 2 _ rfl; (with_reducible repeat (first | refine bN ?_ _ | refine bD ?_ | refine bA ?_ _)); refine bP (cs := #[.int .i64 0, .string (⟨#[]⟩ : ByteArray), .bool false, .string (⟨#[]⟩ : ByteArray), .int .i64 0, .slice none 0 0, .bool false]) ?_ 1 _ rfl; (with_reducible repeat (first | refine bN ?_ _ | refine bD ?_ | refine bA ?_ _)); refine bP (cs := #[.int .i64 0, .string (⟨#[]⟩ : ByteArray), .bool false, .string (⟨#[]⟩ : ByteArray), .int .i64 0, .slice none 0 0, .bool false]) ?_ 0 _ rfl; (with_reducible repeat (first | refine bN ?_ _ | refine bD ?_ | refine bA ?_ _)); refine bR ?_ NB270_275.out _; (with_reducible repeat (first | refine bN ?_ _ | refine bD ?_ | refine bA ?_ _)); refine bR ?_ NB270_275.out _; (with_reducible repeat (first | refine bN ?_ _ | refine bD ?_ | refine bA ?_ _)); refine bR ?_ NB270_275.out _; (with_reducible repeat (first | refine bN ?_ _ | refine bD ?_ | refine bA ?_ _)); exact BK270.out) Tryd.underlying32 rfl (by kernel_rfl)) rfl ?_
     exact ⟨_, SQ.er, by first | exact Kd.R_nil _ _ _ _ _ | exact Kd.N_nil _ _ _ _ _ | exact Kd.V_nil _ _ _ _ _ | exact Kd.Q_nil _ _ _ _ _ | exact Kd.S_nil _ _ _ _ _, SQ.bw⟩
  case rest =>
   clear HC7
   try clear c1
   try clear p1
   try clear q1
   try clear hx1
   try clear qi1
   try clear c2
   try clear c2b0
   try clear c2b1
   try clear p2
   try clear q2
   try clear hx2
   try clear qi2
   try clear c3
   try clear c4
   try clear c5
   try clear c5b0
   try clear c5b1
   try clear p6
   try clear q6
   try clear hx6
   try clear qi6
   try clear c10
   try clear c12
   try clear c12b0
   try clear c12b1
   try clear c13
   try clear c13b0
   try clear c13b1
   try clear c14
   try clear c16
   try clear c16b0
   try clear c16b1
   try clear p17
   try clear q17
   try clear hx17
   try clear qi17
   try clear c18
   try clear c18b0
   try clear c19
   try clear c21
   try clear c21b0
   try clear c21b1
   try clear p22
   try clear q22
   try clear hx22
   try clear qi22
   try clear c23
   try clear c23b0
   try clear c23b1
   try clear p24
   try clear q24
   try clear hx24
   try clear qi24
   try clear c25
   try clear p25
   try clear q25
   try clear hx25
   try clear qi25
   try clear c29
   try clear c29b0
   try clear c29b1
   try clear c31
   try clear c34
   try clear c35
   try clear c37
   try clear c41
   try clear c42
   try clear c44
   try clear hcz11_0
   try clear hcz11_1
   try clear hcz11_2
   try clear hcz11_3
   try clear hcz11_4
   try clear hcz11_5
   try clear hcz15_0
   try clear hcz15_1
   try clear hcz15_2
   try clear hcz15_3
   try clear hcz15_4
   try clear hcz15_5
   try clear hcz15_6
   try clear hcz20_0
   try clear hcz20_1
   try clear hcz20_2
   try clear hcz20_3
   try clear hcz20_4
   try clear hcz20_5
   try clear hcz20_6
   try clear hcz36_0
   try clear hcz36_1
   try clear hcz36_2
   try clear hcz38_0
   try clear hcz38_1
   try clear hcz38_2
   try clear hcz38_3
   try clear hcz38_4
   try clear hcz38_5
   try clear hcz43_0
   try clear hcz43_1
   try clear hcz43_2
   try clear hcz45_0
   try clear hcz45_1
   try clear hcz45_2
   try clear hcz45_3
   try clear hcz45_4
   try clear hcz45_5
   try clear hcz45_6
   try clear hcz4_0
   try clear hcz4_1
   try clear hcz4_2
   try clear hcz4_3
   try clear hcz4_4
   try clear hcz4_5
   try clear hcz4_6
   try clear hfz11_0
   try clear hfz11_1
   try clear hfz11_2
   try clear hfz11_3
   try clear hfz11_4
   try clear hfz11_5
   try clear hfz15_0
   try clear hfz15_1
   try clear hfz15_2
   try clear hfz15_3
   try clear hfz15_4
   try clear hfz15_5
   try clear hfz15_6
   try clear hfz20_0
   try clear hfz20_1
   try clear hfz20_2
   try clear hfz20_3
   try clear hfz20_4
   try clear hfz20_5
   try clear hfz20_6
   try clear hfz36_0
   try clear hfz36_1
   try clear hfz36_2
   try clear hfz38_0
   try clear hfz38_1
   try clear hfz38_2
   try clear hfz38_3
   try clear hfz38_4
   try clear hfz38_5
   try clear hfz43_0
   try clear hfz43_1
   try clear hfz43_2
   try clear hfz45_0
   try clear hfz45_1
   try clear hfz45_2
   try clear hfz45_3
   try clear hfz45_4
   try clear hfz45_5
   try clear hfz45_6
   try clear hfz4_0
   try clear hfz4_1
   try clear hfz4_2
   try clear hfz4_3
   try clear hfz4_4
   try clear hfz4_5
   try clear hfz4_6
   try clear p17
   try clear p22
   try clear p24
   try clear p25
   try clear p6
   try clear q17
   try clear q22
   try clear q24
   try clear q25
   try clear q6
   obtain ⟨kq, x4_6, x5_6, x271000_6, x271001_6, x271002_6, x271003_6, x271004_6, x271006_6, x272001_6, x272004_6, rfl, rfl, HA, HJ6, BK270, BK271, HB⟩ := hcut
   cases kq with
   | zero => exact absurd HA.out (by simp [r9Decode.j0])
   | succ kj6 =>
    have H := HA.out
    clear HA
    simp only [r9Decode.j0] at H
    have HC46 := A0_.mk H
    clear H
    go_upto_if 56 with (fail)
    go_cut [4] (fun v4 wc => ∃ (kq : Nat) (x4_45 : Int) (x271000_45 : Int) (x271001_45 : ByteArray) (x271002_45 : Bool) (x271003_45 : ByteArray) (x271004_45 : Int) (x271006_45 : Bool) (x272002_45 : Bool) (x272003_45 : ByteArray), v4 = .int .i64 x4_45 ∧ A0_ (r9Decode.j1 kq a0 x4_45 (wrap64 (bt a0 0)) x272001_6 x272002_45 x272003_45 x272004_6 = some (r1, r2, r3, r4, r5, r6, r7)) ∧ A0_ (kq ≤ kj6) ∧ A0_ (wc.heap[gb270]? = some (.cells #[.int .i64 x271000_45, .string x271001_45, .bool x271002_45, .string x271003_45, .int .i64 x271004_45, (.slice none 0 0), .bool x271006_45] 32 (0, 0))) ∧ A0_ (wc.heap[gb271]? = some (.cells #[.int .i64 (wrap64 (bt a0 0)), .string x272001_6, .bool x272002_45, .string x272003_45, .int .i64 x272004_6, (.slice none 0 0)] 24 (0, 0))) ∧ A0_ (Below w.heap.size w wc))
    case first =>
     have H := HC46.out
     clear HC46
     by_cases c47 : x5_6 = true
     ·subst c47
      rw [if_pos rfl] at H
      by_cases c48 : x4_6 ≥ (a0.size : Int)
      ·rw [if_pos c48] at H
       have c48b0 : decide ((a0.size : Int) ≤ x4_6) = true := decide_eq_true c48
       clear c48
       (first | rw [c48b0] | (simp only [i64_w, i32_w]; rw [c48b0]) | skip)
       simp only [Option.some.injEq, Prod.mk.injEq] at H
       obtain ⟨rfl, rfl, rfl, rfl, rfl, rfl, rfl⟩ := H
       have hnb49 := NB270_271.out
       have hnc49 := NB271_270.out
       obtain ⟨hcz50_0, hcz50_1, hcz50_2, hcz50_3, hcz50_4, hcz50_5, hcz50_6, hfz50_0, hfz50_1, hfz50_2, hfz50_3, hfz50_4, hfz50_5, hfz50_6⟩ := SQ.cs7 BK270.out
       go_wp2
       refine bodyPost_ret (results_cell_row rfl _ _ gb270 32 #[.int .i64 0, .string (⟨#[]⟩ : ByteArray), .bool false, .string (⟨#[]⟩ : ByteArray), .int .i64 0, .slice none 0 0, .bool false] (0, 0) _ rfl (by (with_reducible repeat (first | refine bN ?_ _ | refine bD ?_ | refine bA ?_ _)); refine bP (cs := #[.int .i64 0, .string (⟨#[]⟩ : ByteArray), .bool false, .string (⟨#[]⟩ : ByteArray), .int .i64 0, .slice none 0 0, .bool x271006_6]) ?_ 6 _ rfl; (with_reducible repeat (first | refine bN ?_ _ | refine bD ?_ | refine bA ?_ _)); refine bP (cs := #[.int .i64 0, .string (⟨#[]⟩ : ByteArray), .bool false, .string (⟨#[]⟩ : ByteArray), .int .i64 0, .slice none 0 0, .bool x271006_6]) ?_ 5 _ rfl; (with_reducible repeat (first | refine bN ?_ _ | refine bD ?_ | refine bA ?_ _)); refine bP (cs := #[.int .i64 0, .string (⟨#[]⟩ : ByteArray), .bool false, .string (⟨#[]⟩ : ByteArray), .int .i64 x271004_6, .slice none 0 0, .bool x271006_6]) ?_ 4 _ rfl; (with_reducible repeat (first | refine bN ?_ _ | refine bD ?_ | refine bA ?_ _)); refine bP (cs := #[.int .i64 0, .string (⟨#[]⟩ : ByteArray), .bool false, .string x271003_6, .int .i64 x271004_6, .slice none 0 0, .bool x271006_6]) ?_ 3 _ rfl; (with_reducible repeat (first | refine bN ?_ _ | refine bD ?_ | refine bA ?_ _)); refine bP (cs := #[.int .i64 0, .string (⟨#[]⟩ : ByteArray), .bool x271002_6, .string x271003_6, .int .i64 x271004_6, .slice none 0 0, .bool x271006_6]) ?_ 2 _ rfl; (with_reducible repeat (first | refine bN ?_ _ | refine bD ?_ | refine bA ?_ _)); refine bP (cs := #[.int .i64 0, .string x271001_6, .bool x271002_6, .string x271003_6, .int .i64 x271004_6, .slice none 0 0, .bool x271006_6]) ?_ 1 _ rfl; (with_reducible repeat (first | refine bN ?_ _ | refine bD ?_ | refine bA ?_ _)); refine bP (cs := #[.int .i64 x271000_6, .string x271001_6, .bool x271002_6, .string x271003_6, .int .i64 x271004_6, .slice none 0 0, .bool x271006_6]) ?_ 0 _ rfl; (with_reducible repeat (first | refine bN ?_ _ | refine bD ?_ | refine bA ?_ _)); exact BK270.out) Tryd.underlying32 rfl (by kernel_rfl)) rfl ?_
       exact ⟨_, SQ.er, by first | exact Kd.R_nil _ _ _ _ _ | exact Kd.N_nil _ _ _ _ _ | exact Kd.V_nil _ _ _ _ _ | exact Kd.Q_nil _ _ _ _ _ | exact Kd.S_nil _ _ _ _ _, SQ.bw⟩
      ·rw [if_neg c48] at H
       have c48b0 : decide ((a0.size : Int) ≤ x4_6) = false := decide_eq_false c48
       clear c48
       (first | rw [c48b0] | (simp only [i64_w, i32_w]; rw [c48b0]) | skip)
       by_cases c51 : 0 ≤ x4_6
       rotate_left
       ·rw [if_neg c51] at H
        exact absurd H (by simp)
       rw [if_pos c51] at H
       have c51b0 : decide (0 ≤ x4_6) = true := decide_eq_true c51
       clear c51
       by_cases c52 : x4_6 < (a0.size : Int)
       rotate_left
       ·rw [if_neg c52] at H
        exact absurd H (by simp)
       rw [if_pos c52] at H
       have c52b0 : decide (x4_6 < (a0.size : Int)) = true := decide_eq_true c52
       clear c52
       by_cases c54 : (wrap64 ((wrap64 (x4_6 + 1)) + (wrap64 (bt a0 x4_6)))) > (a0.size : Int)
       ·rw [if_pos c54] at H
        have c54b0 : decide ((a0.size : Int) < (wrap64 ((wrap64 (x4_6 + 1)) + (wrap64 (bt a0 x4_6))))) = true := decide_eq_true c54
        clear c54
        simp only [Option.some.injEq, Prod.mk.injEq] at H
        obtain ⟨rfl, rfl, rfl, rfl, rfl, rfl, rfl⟩ := H
        have p53 : 0 ≤ (x4_6 : Int) := SQ.da
        have q53 : x4_6 < (a0.size : Int) := SQ.da
        have hx53 := bt_at a0 x4_6
        replace p53 := eq_true p53
        replace q53 := eq_true q53
        have hnb55 := NB270_271.out
        have hnc55 := NB271_270.out
        obtain ⟨hcz56_0, hcz56_1, hcz56_2, hcz56_3, hcz56_4, hcz56_5, hcz56_6, hfz56_0, hfz56_1, hfz56_2, hfz56_3, hfz56_4, hfz56_5, hfz56_6⟩ := SQ.cs7 BK270.out
        go_wp2
        refine bodyPost_ret (results_cell_row rfl _ _ gb270 32 #[.int .i64 0, .string (⟨#[]⟩ : ByteArray), .bool false, .string (⟨#[]⟩ : ByteArray), .int .i64 0, .slice none 0 0, .bool false] (0, 0) _ rfl (by (with_reducible repeat (first | refine bN ?_ _ | refine bD ?_ | refine bA ?_ _)); refine bP (cs := #[.int .i64 0, .string (⟨#[]⟩ : ByteArray), .bool false, .string (⟨#[]⟩ : ByteArray), .int .i64 0, .slice none 0 0, .bool x271006_6]) ?_ 6 _ rfl; (with_reducible repeat (first | refine bN ?_ _ | refine bD ?_ | refine bA ?_ _)); refine bP (cs := #[.int .i64 0, .string (⟨#[]⟩ : ByteArray), .bool false, .string (⟨#[]⟩ : ByteArray), .int .i64 0, .slice none 0 0, .bool x271006_6]) ?_ 5 _ rfl; (with_reducible repeat (first | refine bN ?_ _ | refine bD ?_ | refine bA ?_ _)); refine bP (cs := #[.int .i64 0, .string (⟨#[]⟩ : ByteArray), .bool false, .string (⟨#[]⟩ : ByteArray), .int .i64 x271004_6, .slice none 0 0, .bool x271006_6]) ?_ 4 _ rfl; (with_reducible repeat (first | refine bN ?_ _ | refine bD ?_ | refine bA ?_ _)); refine bP (cs := #[.int .i64 0, .string (⟨#[]⟩ : ByteArray), .bool false, .string x271003_6, .int .i64 x271004_6, .slice none 0 0, .bool x271006_6]) ?_ 3 _ rfl; (with_reducible repeat (first | refine bN ?_ _ | refine bD ?_ | refine bA ?_ _)); refine bP (cs := #[.int .i64 0, .string (⟨#[]⟩ : ByteArray), .bool x271002_6, .string x271003_6, .int .i64 x271004_6, .slice none 0 0, .bool x271006_6]) ?_ 2 _ rfl; (with_reducible repeat (first | refine bN ?_ _ | refine bD ?_ | refine bA ?_ _)); refine bP (cs := #[.int .i64 0, .string x271001_6, .bool x271002_6, .string x271003_6, .int .i64 x271004_6, .slice none 0 0, .bool x271006_6]) ?_ 1 _ rfl; (with_reducible repeat (first | refine bN ?_ _ | refine bD ?_ | refine bA ?_ _)); refine bP (cs := #[.int .i64 x271000_6, .string x271001_6, .bool x271002_6, .string x271003_6, .int .i64 x271004_6, .slice none 0 0, .bool x271006_6]) ?_ 0 _ rfl; (with_reducible repeat (first | refine bN ?_ _ | refine bD ?_ | refine bA ?_ _)); exact BK270.out) Tryd.underlying32 rfl (by kernel_rfl)) rfl ?_
        exact ⟨_, SQ.er, by first | exact Kd.R_nil _ _ _ _ _ | exact Kd.N_nil _ _ _ _ _ | exact Kd.V_nil _ _ _ _ _ | exact Kd.Q_nil _ _ _ _ _ | exact Kd.S_nil _ _ _ _ _, SQ.bw⟩
       ·rw [if_neg c54] at H
        have c54b0 : decide ((a0.size : Int) < (wrap64 ((wrap64 (x4_6 + 1)) + (wrap64 (bt a0 x4_6))))) = false := decide_eq_false c54
        clear c54
        obtain ⟨ji58, hji58⟩ : ∃ j_ : Int, (wrap64 (x4_6 + 1)) = j_ := ⟨_, rfl⟩
        replace H : (if 0 ≤ (ji58) then (if (ji58) ≤ (wrap64 ((ji58) + (wrap64 (bt a0 x4_6)))) then (if (wrap64 ((ji58) + (wrap64 (bt a0 x4_6)))) ≤ (a0.size : Int) then (r9Decode.j1 kj6 a0 (wrap64 (x4_6 + (wrap64 (1 + (wrap64 (bt a0 x4_6)))))) (wrap64 (bt a0 0)) x272001_6 true (a0.extract ((ji58) : Int).toNat ((wrap64 ((ji58) + (wrap64 (bt a0 x4_6)))) : Int).toNat) x272004_6) else (none)) else (none)) else (none)) = some (r1, r2, r3, r4, r5, r6, r7) := by first | (rw [hji58] at H; exact H) | (simp only [hji58] at H ⊢; exact H)
        (try rw [hji58] at c54b0)
        have hji58w : (IntKind.i64.wrap (x4_6 + 1)) = ji58 := (i64_w _).trans hji58
        by_cases c59 : 0 ≤ (ji58)
        rotate_left
        ·rw [if_neg c59] at H
         exact absurd H (by simp)
        rw [if_pos c59] at H
        have c59b0 := eq_true c59
        have c59b1 : decide (0 ≤ (ji58)) = true := decide_eq_true c59
        clear c59
        by_cases c60 : (ji58) ≤ (wrap64 ((ji58) + (wrap64 (bt a0 x4_6))))
        rotate_left
        ·rw [if_neg c60] at H
         exact absurd H (by simp)
        rw [if_pos c60] at H
        have c60b0 := eq_true c60
        have c60b1 : decide ((ji58) ≤ (wrap64 ((ji58) + (wrap64 (bt a0 x4_6))))) = true := decide_eq_true c60
        by_cases c61 : (wrap64 ((ji58) + (wrap64 (bt a0 x4_6)))) ≤ (a0.size : Int)
        rotate_left
        ·rw [if_neg c61] at H
         exact absurd H (by simp)
        rw [if_pos c61] at H
        have c61b0 := eq_true c61
        have c61b1 : decide ((wrap64 ((ji58) + (wrap64 (bt a0 x4_6)))) ≤ (a0.size : Int)) = true := decide_eq_true c61
        have H' := A0_.mk H
        clear H
        have p53 : 0 ≤ (x4_6 : Int) := SQ.da
        have q53 : x4_6 < (a0.size : Int) := SQ.da
        have hx53 := bt_at a0 x4_6
        replace p53 := eq_true p53
        replace q53 := eq_true q53
        have p57 : 0 ≤ (x4_6 : Int) := SQ.da
        have q57 : x4_6 < (a0.size : Int) := SQ.da
        have hx57 := bt_at a0 x4_6
        replace p57 := eq_true p57
        replace q57 := eq_true q57
        try go_wp2
        replace BK270 := A0_.mk (bD BK270.out)
        replace BK271 := A0_.mk (bD BK271.out)
        replace HB := A0_.mk (wD HB.out)
        refine start_ (n := 12) (S := fun w' => True) (ds := []) #[false, false, false, false, false, false, false, false, false, false, false, false] (by kernel_rfl) rfl rfl trivial (fun hHeld => ?_); refine with_tabW r9Decode.tab21 r9Decode.bits21 (fun HT_ HW_ => ?_)
        generalize wc.drew = w62 at BK270 BK271 HB hHeld ⊢
        refine pure_ (i := 0) (N := some 78) (v := ?_) (a' := ?_) #[true, false, false, false, false, false, false, false, false, false, false, false] rfl rfl (any_of HT_.out (by kernel_rfl)) (fun _ _ _ h => h) (Or.inl ⟨by rfl, ?_⟩) ?_ ?_
        rotate_left
        ·intro w'
         go_simp
         with_reducible rfl
        rotate_left
        ·simp only [Act.put, List.setIfInBounds_toArray, List.set_cons_zero, List.set_cons_succ, i64_w, i32_w]
         rfl
        refine pure_ (i := 1) (N := some 79) (v := ?_) (a' := ?_) #[true, true, false, false, false, false, false, false, false, false, false, false] rfl rfl (any_of HT_.out (by kernel_rfl)) (fun _ _ _ h => h) (Or.inl ⟨by rfl, ?_⟩) ?_ ?_
        rotate_left
        ·intro w'
         go_simp
         with_reducible rfl
        rotate_left
        ·simp only [Act.put, List.setIfInBounds_toArray, List.set_cons_zero, List.set_cons_succ, i64_w, i32_w]
         rfl
        refine pure_ (i := 2) (N := some 80) (v := ?_) (a' := ?_) #[true, true, true, false, false, false, false, false, false, false, false, false] rfl rfl (any_of HT_.out (by kernel_rfl)) (fun _ _ _ h => h) (Or.inl ⟨by rfl, ?_⟩) ?_ ?_
        rotate_left
        ·intro w'
         go_simp
         with_reducible rfl
        rotate_left
        ·simp only [Act.put, List.setIfInBounds_toArray, List.set_cons_zero, List.set_cons_succ, i64_w, i32_w]
         rfl
        refine pure_ (i := 3) (N := some 81) (v := ?_) (a' := ?_) #[true, true, true, true, false, false, false, false, false, false, false, false] rfl rfl (any_of HT_.out (by kernel_rfl)) (fun _ _ _ h => h) (Or.inl ⟨by rfl, ?_⟩) ?_ ?_
        rotate_left
        ·intro w'
         go_simp
         with_reducible rfl
        rotate_left
        ·simp only [Act.put, List.setIfInBounds_toArray, List.set_cons_zero, List.set_cons_succ, i64_w, i32_w]
         rfl
        refine pure_ (i := 4) (N := some 82) (v := ?_) (a' := ?_) #[true, true, true, true, true, false, false, false, false, false, false, false] rfl rfl (any_of HT_.out (by kernel_rfl)) (fun _ _ _ h => h) (Or.inl ⟨by rfl, ?_⟩) ?_ ?_
        rotate_left
        ·intro w'
         go_simp
         with_reducible rfl
        rotate_left
        ·simp only [Act.put, List.setIfInBounds_toArray, List.set_cons_zero, List.set_cons_succ, i64_w, i32_w]
         rfl
        refine pure_ (i := 5) (N := some 83) (v := ?_) (a' := ?_) #[true, true, true, true, true, true, false, false, false, false, false, false] rfl rfl (any_of HT_.out (by kernel_rfl)) (fun _ _ _ h => h) (Or.inl ⟨by rfl, ?_⟩) ?_ ?_
        rotate_left
        ·intro w'
         go_simp
         with_reducible rfl
        rotate_left
        ·simp only [Act.put, List.setIfInBounds_toArray, List.set_cons_zero, List.set_cons_succ, i64_w, i32_w]
         rfl
        refine pure_ (i := 6) (N := some 84) (v := ?_) (a' := ?_) #[true, true, true, true, true, true, true, false, false, false, false, false] rfl rfl (any_of HT_.out (by kernel_rfl)) (fun _ _ _ h => h) (Or.inl ⟨by rfl, ?_⟩) ?_ ?_
        rotate_left
        ·intro w'
         go_simp
         with_reducible rfl
        rotate_left
        ·simp only [Act.put, List.setIfInBounds_toArray, List.set_cons_zero, List.set_cons_succ, i64_w, i32_w]
         rfl
        refine pure_ (i := 7) (N := some 85) (v := ?_) (a' := ?_) #[true, true, true, true, true, true, true, true, false, false, false, false] rfl rfl (any_of HT_.out (by kernel_rfl)) (fun _ _ _ h => h) (Or.inl ⟨by rfl, ?_⟩) ?_ ?_
        rotate_left
        ·intro w'
         go_simp
         with_reducible rfl
        rotate_left
        ·simp only [Act.put, List.setIfInBounds_toArray, List.set_cons_zero, List.set_cons_succ, i64_w, i32_w]
         rfl
        refine pure_ (i := 8) (N := some 86) (v := ?_) (a' := ?_) #[true, true, true, true, true, true, true, true, true, false, false, false] rfl rfl (any_of HT_.out (by kernel_rfl)) (fun _ _ _ h => h) (Or.inl ⟨by rfl, ?_⟩) ?_ ?_
        rotate_left
        ·intro w'
         go_simp
         with_reducible rfl
        rotate_left
        ·simp only [Act.put, List.setIfInBounds_toArray, List.set_cons_zero, List.set_cons_succ, i64_w, i32_w]
         rfl
        refine one_ (i := 9) (N := none) #[true, true, true, true, true, true, true, true, true, true, false, false] rfl rfl (one_of HT_.out (by kernel_rfl)) (by decide) (fun K hK => ?_)
        have hs63 : w62.cell? ⟨gb271, 2, none⟩ = some (.bool false) := (bC BK271.out 2).trans rfl
        have hfs63 := bF BK271.out 2
        have hns63_0 := NB270_271.out
        have hms63_0 := NB271_270.out
        refine skip_ (w1 := ?_) (by rfl) rfl ?_ ?_
        rotate_left
        ·go_simp
         rfl
        refine hK.out _ _ trivial (fun hHeld => ?_)
        clear hK K
        refine pure_ (i := 10) (N := some 87) (v := ?_) (a' := ?_) #[true, true, true, true, true, true, true, true, true, true, true, false] rfl rfl (any_of HT_.out (by kernel_rfl)) (fun _ _ _ h => h) (Or.inl ⟨by rfl, ?_⟩) ?_ ?_
        rotate_left
        ·intro w'
         go_simp
         with_reducible rfl
        rotate_left
        ·simp only [Act.put, List.setIfInBounds_toArray, List.set_cons_zero, List.set_cons_succ, i64_w, i32_w]
         rfl
        refine one_ (i := 11) (N := none) #[true, true, true, true, true, true, true, true, true, true, true, true] rfl rfl (one_of HT_.out (by kernel_rfl)) (by decide) (fun K hK => ?_)
        have hs64 : w62.cell? ⟨gb271, 3, none⟩ = some (.string (⟨#[]⟩ : ByteArray)) := (bC BK271.out 3).trans rfl
        have hfs64 := bF BK271.out 3
        have hns64_0 := NB270_271.out
        have hms64_0 := NB271_270.out
        refine skip_ (w1 := ?_) (by rfl) rfl ?_ ?_
        rotate_left
        ·go_simp
         rfl
        refine hK.out _ _ trivial (fun hHeld => ?_)
        clear hK K
        refine done_ (done_of HT_.out (by kernel_rfl)) ?_
        try go_wp2
        go_meet
        case rel => exact ⟨_, (wrap64 (x4_6 + (wrap64 (1 + (wrap64 (bt a0 x4_6)))))), (x271000_6), (x271001_6), (x271002_6), (x271003_6), (x271004_6), (x271006_6), (true), (a0.extract ((ji58) : Int).toNat ((wrap64 ((ji58) + (wrap64 (bt a0 x4_6)))) : Int).toNat), (by first | rfl | (simp; done) | (simp [*]; done)), H', ⟨by have := HJ6.out; first | omega | exact Nat.le_refl _⟩, ⟨by (with_reducible repeat (first | refine bN ?_ _ | refine bD ?_ | refine bA ?_ _)); refine bR ?_ NB270_271.out _; (with_reducible repeat (first | refine bN ?_ _ | refine bD ?_ | refine bA ?_ _)); refine bR ?_ NB270_271.out _; (with_reducible repeat (first | refine bN ?_ _ | refine bD ?_ | refine bA ?_ _)); exact BK270.out⟩, ⟨by (with_reducible repeat (first | refine bN ?_ _ | refine bD ?_ | refine bA ?_ _)); refine bP (cs := #[.int .i64 (wrap64 (bt a0 0)), .string x272001_6, .bool true, .string (⟨#[]⟩ : ByteArray), .int .i64 x272004_6, .slice none 0 0]) ?_ 3 _ rfl; (with_reducible repeat (first | refine bN ?_ _ | refine bD ?_ | refine bA ?_ _)); refine bP (cs := #[.int .i64 (wrap64 (bt a0 0)), .string x272001_6, .bool false, .string (⟨#[]⟩ : ByteArray), .int .i64 x272004_6, .slice none 0 0]) ?_ 2 _ rfl; (with_reducible repeat (first | refine bN ?_ _ | refine bD ?_ | refine bA ?_ _)); exact BK271.out⟩, ⟨SQ.bw⟩⟩
     ·replace c47 := Bool.eq_false_iff.mpr c47
      subst c47
      rw [if_neg (show ¬ (false = true) by decide)] at H
      have H' := A0_.mk H
      clear H
      go_wp2
      go_meet
      case rel => exact ⟨_, (x4_6), (x271000_6), (x271001_6), (x271002_6), (x271003_6), (x271004_6), (x271006_6), (false), ((⟨#[]⟩ : ByteArray)), (by first | rfl | (simp; done) | (simp [*]; done)), H', ⟨by have := HJ6.out; first | omega | exact Nat.le_refl _⟩, ⟨SQ.kw⟩, ⟨SQ.kw⟩, ⟨SQ.bw⟩⟩
    case rest =>
     clear HC46
     try clear c1
     try clear p1
     try clear q1
     try clear hx1
     try clear qi1
     try clear c2
     try clear c2b0
     try clear c2b1
     try clear p2
     try clear q2
     try clear hx2
     try clear qi2
     try clear c3
     try clear c4
     try clear c5
     try clear c5b0
     try clear c5b1
     try clear p5
     try clear q5
     try clear hx5
     try clear c6
     try clear p6
     try clear q6
     try clear hx6
     try clear qi6
     try clear c10
     try clear c12
     try clear c12b0
     try clear c12b1
     try clear c13
     try clear c13b0
     try clear c13b1
     try clear c14
     try clear c16
     try clear c16b0
     try clear c16b1
     try clear p17
     try clear q17
     try clear hx17
     try clear qi17
     try clear c18
     try clear c18b0
     try clear c19
     try clear c21
     try clear c21b0
     try clear c21b1
     try clear p22
     try clear q22
     try clear hx22
     try clear qi22
     try clear c23
     try clear c23b0
     try clear c23b1
     try clear p24
     try clear q24
     try clear hx24
     try clear qi24
     try clear c25
     try clear p25
     try clear q25
     try clear hx25
     try clear qi25
     try clear c29
     try clear c29b0
     try clear c29b1
     try clear c31
     try clear c34
     try clear c35
     try clear c37
     try clear c41
     try clear c42
     try clear c44
     try clear c47
     try clear c48
     try clear c48b0
     try clear c49
     try clear c51
     try clear c51b0
     try clear c52
     try clear c52b0
     try clear p53
     try clear q53
     try clear hx53
     try clear c54
     try clear c54b0
     try clear c55
     try clear p57
     try clear q57
     try clear hx57
     try clear c59
     try clear c59b0
     try clear c59b1
     try clear c60
     try clear c60b0
     try clear c60b1
     try clear c61
     try clear c61b0
     try clear c61b1
     try clear p64
     try clear hcz11_0
     try clear hcz11_1
     try clear hcz11_2
     try clear hcz11_3
     try clear hcz11_4
     try clear hcz11_5
     try clear hcz15_0
     try clear hcz15_1
     try clear hcz15_2
     try clear hcz15_3
     try clear hcz15_4
     try clear hcz15_5
     try clear hcz15_6
     try clear hcz20_0
     try clear hcz20_1
     try clear hcz20_2
     try clear hcz20_3
     try clear hcz20_4
     try clear hcz20_5
     try clear hcz20_6
     try clear hcz36_0
     try clear hcz36_1
     try clear hcz36_2
     try clear hcz38_0
     try clear hcz38_1
     try clear hcz38_2
     try clear hcz38_3
     try clear hcz38_4
     try clear hcz38_5
     try clear hcz43_0
     try clear hcz43_1
     try clear hcz43_2
     try clear hcz45_0
     try clear hcz45_1
     try clear hcz45_2
     try clear hcz45_3
     try clear hcz45_4
     try clear hcz45_5
     try clear hcz45_6
     try clear hcz4_0
     try clear hcz4_1
     try clear hcz4_2
     try clear hcz4_3
     try clear hcz4_4
     try clear hcz4_5
     try clear hcz4_6
     try clear hcz50_0
     try clear hcz50_1
     try clear hcz50_2
     try clear hcz50_3
     try clear hcz50_4
     try clear hcz50_5
     try clear hcz50_6
     try clear hcz56_0
     try clear hcz56_1
     try clear hcz56_2
     try clear hcz56_3
     try clear hcz56_4
     try clear hcz56_5
     try clear hcz56_6
     try clear hfz11_0
     try clear hfz11_1
     try clear hfz11_2
     try clear hfz11_3
     try clear hfz11_4
     try clear hfz11_5
     try clear hfz15_0
     try clear hfz15_1
     try clear hfz15_2
     try clear hfz15_3
     try clear hfz15_4
     try clear hfz15_5
     try clear hfz15_6
     try clear hfz20_0
     try clear hfz20_1
     try clear hfz20_2
     try clear hfz20_3
     try clear hfz20_4
     try clear hfz20_5
     try clear hfz20_6
     try clear hfz36_0
     try clear hfz36_1
     try clear hfz36_2
     try clear hfz38_0
     try clear hfz38_1
     try clear hfz38_2
     try clear hfz38_3
     try clear hfz38_4
     try clear hfz38_5
     try clear hfz43_0
     try clear hfz43_1
     try clear hfz43_2
     try clear hfz45_0
     try clear hfz45_1
     try clear hfz45_2
     try clear hfz45_3
     try clear hfz45_4
     try clear hfz45_5
     try clear hfz45_6
     try clear hfz4_0
     try clear hfz4_1
     try clear hfz4_2
     try clear hfz4_3
     try clear hfz4_4
     try clear hfz4_5
     try clear hfz4_6
     try clear hfz50_0
     try clear hfz50_1
     try clear hfz50_2
     try clear hfz50_3
     try clear hfz50_4
     try clear hfz50_5
     try clear hfz50_6
     try clear hfz56_0
     try clear hfz56_1
     try clear hfz56_2
     try clear hfz56_3
     try clear hfz56_4
     try clear hfz56_5
     try clear hfz56_6
     try clear p1
     try clear p17
     try clear p2
     try clear p22
     try clear p24
     try clear p25
     try clear p53
     try clear p57
     try clear p6
     try clear q1
     try clear q17
     try clear q2
     try clear q22
     try clear q24
     try clear q25
     try clear q53
     try clear q57
     try clear q6
     obtain ⟨kq, x4_45, x271000_45, x271001_45, x271002_45, x271003_45, x271004_45, x271006_45, x272002_45, x272003_45, rfl, HA, HJ45, BK270, BK271, HB⟩ := hcut
     cases kq with
     | zero => exact absurd HA.out (by simp [r9Decode.j1])
     | succ kj45 =>
      have H := HA.out
      clear HA
      simp only [r9Decode.j1] at H
      have HC65 := A0_.mk H
      clear H
      have hnb66 := NB271_270.out
      have hnc66 := NB270_271.out
      obtain ⟨hcz67_0, hcz67_1, hcz67_2, hcz67_3, hcz67_4, hcz67_5, hfz67_0, hfz67_1, hfz67_2, hfz67_3, hfz67_4, hfz67_5⟩ := SQ.cs6 BK271.out
      go_upto_if 94 with (fail)
      go_cut [] (fun wc => ∃ (kq : Nat) (x272004_64 : Int), A0_ (r9Decode.j2 kq a0 x4_45 (wrap64 (bt a0 0)) x272001_6 x272002_45 x272003_45 x272004_64 = some (r1, r2, r3, r4, r5, r6, r7)) ∧ A0_ (kq ≤ kj45) ∧ A0_ (wc.heap[gb270]? = some (.cells #[.int .i64 x271000_45, .string x271001_45, .bool x271002_45, .string x271003_45, .int .i64 x271004_45, (.slice none 0 0), .bool x271006_45] 32 (0, 0))) ∧ A0_ (wc.heap[gb271]? = some (.cells #[.int .i64 (wrap64 (bt a0 0)), .string x272001_6, .bool x272002_45, .string x272003_45, .int .i64 x272004_64, (.slice none 0 0)] 24 (0, 0))) ∧ A0_ (Below w.heap.size w wc))
      case first =>
       have H := HC65.out
       clear HC65
       by_cases c68 : (wrap64 (bt a0 0)) = 2
       ·rw [if_pos c68] at H
        have c68b0 : ((wrap64 (bt a0 0)) == 2) = true := beq_iff_eq.mpr c68
        have c68b1 : ((wrap64 (bt a0 0)) != 2) = false := bne_eq_false_iff_eq.mpr c68
        clear c68
        (first | rw [c68b0] | (simp only [i64_w, i32_w]; rw [c68b0]) | skip)
        have H' := A0_.mk H
        clear H
        have hnb69 := NB271_270.out
        have hnc69 := NB270_271.out
        obtain ⟨hcz70_0, hcz70_1, hcz70_2, hcz70_3, hcz70_4, hcz70_5, hfz70_0, hfz70_1, hfz70_2, hfz70_3, hfz70_4, hfz70_5⟩ := SQ.cs6 BK271.out
        go_wp2
        go_meet
        case rel => exact ⟨_, (1), H', ⟨by have := HJ6.out; have := HJ45.out; first | omega | exact Nat.le_refl _⟩, ⟨by (with_reducible repeat (first | refine bN ?_ _ | refine bD ?_ | refine bA ?_ _)); refine bR ?_ NB270_271.out _; (with_reducible repeat (first | refine bN ?_ _ | refine bD ?_ | refine bA ?_ _)); exact BK270.out⟩, ⟨by (with_reducible repeat (first | refine bN ?_ _ | refine bD ?_ | refine bA ?_ _)); refine bP (cs := #[.int .i64 (wrap64 (bt a0 0)), .string x272001_6, .bool x272002_45, .string x272003_45, .int .i64 x272004_6, .slice none 0 0]) ?_ 4 _ rfl; (with_reducible repeat (first | refine bN ?_ _ | refine bD ?_ | refine bA ?_ _)); exact BK271.out⟩, ⟨SQ.bw⟩⟩
       ·rw [if_neg c68] at H
        have c68b0 : ((wrap64 (bt a0 0)) == 2) = false := beq_eq_false_iff_ne.mpr c68
        have c68b1 : ((wrap64 (bt a0 0)) != 2) = true := bne_iff_ne.mpr c68
        (first | rw [c68b0] | (simp only [i64_w, i32_w]; rw [c68b0]) | skip)
        have H' := A0_.mk H
        clear H
        go_wp2
        go_meet
        case rel => exact ⟨_, (x272004_6), H', ⟨by have := HJ6.out; have := HJ45.out; first | omega | exact Nat.le_refl _⟩, ⟨SQ.kw⟩, ⟨SQ.kw⟩, ⟨SQ.bw⟩⟩
      case rest =>
       clear HC65
       try clear c1
       try clear p1
       try clear q1
       try clear hx1
       try clear qi1
       try clear c2
       try clear c2b0
       try clear c2b1
       try clear p2
       try clear q2
       try clear hx2
       try clear qi2
       try clear c3
       try clear c4
       try clear c5
       try clear c5b0
       try clear c5b1
       try clear p5
       try clear q5
       try clear hx5
       try clear c6
       try clear p6
       try clear q6
       try clear hx6
       try clear qi6
       try clear c10
       try clear c12
       try clear c12b0
       try clear c12b1
       try clear c13
       try clear c13b0
       try clear c13b1
       try clear c14
       try clear c16
       try clear c16b0
       try clear c16b1
       try clear p17
       try clear q17
       try clear hx17
       try clear qi17
       try clear c18
       try clear c18b0
       try clear c19
       try clear c21
       try clear c21b0
       try clear c21b1
       try clear p22
       try clear q22
       try clear hx22
       try clear qi22
       try clear c23
       try clear c23b0
       try clear c23b1
       try clear p24
       try clear q24
       try clear hx24
       try clear qi24
       try clear c25
       try clear p25
       try clear q25
       try clear hx25
       try clear qi25
       try clear c29
       try clear c29b0
       try clear c29b1
       try clear c31
       try clear c34
       try clear c35
       try clear c37
       try clear c41
       try clear c42
       try clear c44
       try clear c47
       try clear c48
       try clear c48b0
       try clear c49
       try clear c51
       try clear c51b0
       try clear c52
       try clear c52b0
       try clear p53
       try clear q53
       try clear hx53
       try clear c54
       try clear c54b0
       try clear c55
       try clear p57
       try clear q57
       try clear hx57
       try clear c59
       try clear c59b0
       try clear c59b1
       try clear c60
       try clear c60b0
       try clear c60b1
       try clear c61
       try clear c61b0
       try clear c61b1
       try clear p64
       try clear c66
       try clear c68
       try clear c68b0
       try clear c68b1
       try clear c69
       try clear hcz11_0
       try clear hcz11_1
       try clear hcz11_2
       try clear hcz11_3
       try clear hcz11_4
       try clear hcz11_5
       try clear hcz15_0
       try clear hcz15_1
       try clear hcz15_2
       try clear hcz15_3
       try clear hcz15_4
       try clear hcz15_5
       try clear hcz15_6
       try clear hcz20_0
       try clear hcz20_1
       try clear hcz20_2
       try clear hcz20_3
       try clear hcz20_4
       try clear hcz20_5
       try clear hcz20_6
       try clear hcz36_0
       try clear hcz36_1
       try clear hcz36_2
       try clear hcz38_0
       try clear hcz38_1
       try clear hcz38_2
       try clear hcz38_3
       try clear hcz38_4
       try clear hcz38_5
       try clear hcz43_0
       try clear hcz43_1
       try clear hcz43_2
       try clear hcz45_0
       try clear hcz45_1
       try clear hcz45_2
       try clear hcz45_3
       try clear hcz45_4
       try clear hcz45_5
       try clear hcz45_6
       try clear hcz4_0
       try clear hcz4_1
       try clear hcz4_2
       try clear hcz4_3
       try clear hcz4_4
       try clear hcz4_5
       try clear hcz4_6
       try clear hcz50_0
       try clear hcz50_1
       try clear hcz50_2
       try clear hcz50_3
       try clear hcz50_4
       try clear hcz50_5
       try clear hcz50_6
       try clear hcz56_0
       try clear hcz56_1
       try clear hcz56_2
       try clear hcz56_3
       try clear hcz56_4
       try clear hcz56_5
       try clear hcz56_6
       try clear hcz67_0
       try clear hcz67_1
       try clear hcz67_2
       try clear hcz67_3
       try clear hcz67_4
       try clear hcz67_5
       try clear hcz70_0
       try clear hcz70_1
       try clear hcz70_2
       try clear hcz70_3
       try clear hcz70_4
       try clear hcz70_5
       try clear hfz11_0
       try clear hfz11_1
       try clear hfz11_2
       try clear hfz11_3
       try clear hfz11_4
       try clear hfz11_5
       try clear hfz15_0
       try clear hfz15_1
       try clear hfz15_2
       try clear hfz15_3
       try clear hfz15_4
       try clear hfz15_5
       try clear hfz15_6
       try clear hfz20_0
       try clear hfz20_1
       try clear hfz20_2
       try clear hfz20_3
       try clear hfz20_4
       try clear hfz20_5
       try clear hfz20_6
       try clear hfz36_0
       try clear hfz36_1
       try clear hfz36_2
       try clear hfz38_0
       try clear hfz38_1
       try clear hfz38_2
       try clear hfz38_3
       try clear hfz38_4
       try clear hfz38_5
       try clear hfz43_0
       try clear hfz43_1
       try clear hfz43_2
       try clear hfz45_0
       try clear hfz45_1
       try clear hfz45_2
       try clear hfz45_3
       try clear hfz45_4
       try clear hfz45_5
       try clear hfz45_6
       try clear hfz4_0
       try clear hfz4_1
       try clear hfz4_2
       try clear hfz4_3
       try clear hfz4_4
       try clear hfz4_5
       try clear hfz4_6
       try clear hfz50_0
       try clear hfz50_1
       try clear hfz50_2
       try clear hfz50_3
       try clear hfz50_4
       try clear hfz50_5
       try clear hfz50_6
       try clear hfz56_0
       try clear hfz56_1
       try clear hfz56_2
       try clear hfz56_3
       try clear hfz56_4
       try clear hfz56_5
       try clear hfz56_6
       try clear hfz67_0
       try clear hfz67_1
       try clear hfz67_2
       try clear hfz67_3
       try clear hfz67_4
       try clear hfz67_5
       try clear hfz70_0
       try clear hfz70_1
       try clear hfz70_2
       try clear hfz70_3
       try clear hfz70_4
       try clear hfz70_5
       try clear p1
       try clear p17
       try clear p2
       try clear p22
       try clear p24
       try clear p25
       try clear p5
       try clear p53
       try clear p57
       try clear p6
       try clear p64
       try clear q1
       try clear q17
       try clear q2
       try clear q22
       try clear q24
       try clear q25
       try clear q5
       try clear q53
       try clear q57
       try clear q6
       obtain ⟨kq, x272004_64, HA, HJ64, BK270, BK271, HB⟩ := hcut
       cases kq with
       | zero => exact absurd HA.out (by simp [r9Decode.j2])
       | succ kj64 =>
        have H := HA.out
        clear HA
        simp only [r9Decode.j2] at H
        have H' := A0_.mk H
        clear H
        go_wp2
        go_loopg [4] kj64 (fun kq v4 w' => ∃ (x4_4 : Int) (x272005_4 : List ByteArray) (u272005 : Value), v4 = .int .i64 x4_4 ∧ A0_ (r9Decode.l0 kq a0 x4_4 (wrap64 (bt a0 0)) x272001_6 x272002_45 x272003_45 x272004_64 x272005_4 = some (r1, r2, r3, r4, r5, r6, r7)) ∧ A0_ (kq ≤ kj64) ∧ A0_ (Kd.R Kd.string 9 w' w.heap.size (fun _ => True) u272005 x272005_4) ∧ A0_ (w'.heap[gb270]? = some (.cells #[.int .i64 x271000_45, .string x271001_45, .bool x271002_45, .string x271003_45, .int .i64 x271004_45, (.slice none 0 0), .bool x271006_45] 32 (0, 0))) ∧ A0_ (w'.heap[gb271]? = some (.cells #[.int .i64 (wrap64 (bt a0 0)), .string x272001_6, .bool x272002_45, .string x272003_45, .int .i64 x272004_64, u272005] 24 (0, 0))) ∧ A0_ (Below w.heap.size w w'))
        case atStart => exact ⟨(x4_45), (([] : List ByteArray)), (.slice none 0 0), (by first | rfl | (simp; done) | (simp [*]; done)), H', ⟨Nat.le_refl _⟩, ⟨by first | exact Kd.R_nil _ _ _ _ _ | exact Kd.N_nil _ _ _ _ _ | exact Kd.V_nil _ _ _ _ _ | exact Kd.Q_nil _ _ _ _ _ | exact Kd.S_nil _ _ _ _ _⟩, ⟨SQ.kw⟩, ⟨SQ.kw⟩, ⟨SQ.bw⟩⟩
        case round =>
         clear H'
         try clear c1
         try clear p1
         try clear q1
         try clear hx1
         try clear qi1
         try clear c2
         try clear c2b0
         try clear c2b1
         try clear p2
         try clear q2
         try clear hx2
         try clear qi2
         try clear c3
         try clear c4
         try clear c5
         try clear c5b0
         try clear c5b1
         try clear p5
         try clear q5
         try clear hx5
         try clear c6
         try clear p6
         try clear q6
         try clear hx6
         try clear qi6
         try clear c10
         try clear c12
         try clear c12b0
         try clear c12b1
         try clear c13
         try clear c13b0
         try clear c13b1
         try clear c14
         try clear c16
         try clear c16b0
         try clear c16b1
         try clear p17
         try clear q17
         try clear hx17
         try clear qi17
         try clear c18
         try clear c18b0
         try clear c19
         try clear c21
         try clear c21b0
         try clear c21b1
         try clear p22
         try clear q22
         try clear hx22
         try clear qi22
         try clear c23
         try clear c23b0
         try clear c23b1
         try clear p24
         try clear q24
         try clear hx24
         try clear qi24
         try clear c25
         try clear p25
         try clear q25
         try clear hx25
         try clear qi25
         try clear c29
         try clear c29b0
         try clear c29b1
         try clear c31
         try clear c34
         try clear c35
         try clear c37
         try clear c41
         try clear c42
         try clear c44
         try clear c47
         try clear c48
         try clear c48b0
         try clear c49
         try clear c51
         try clear c51b0
         try clear c52
         try clear c52b0
         try clear p53
         try clear q53
         try clear hx53
         try clear c54
         try clear c54b0
         try clear c55
         try clear p57
         try clear q57
         try clear hx57
         try clear c59
         try clear c59b0
         try clear c59b1
         try clear c60
         try clear c60b0
         try clear c60b1
         try clear c61
         try clear c61b0
         try clear c61b1
         try clear p64
         try clear c66
         try clear c68
         try clear c68b0
         try clear c68b1
         try clear c69
         try clear hcz11_0
         try clear hcz11_1
         try clear hcz11_2
         try clear hcz11_3
         try clear hcz11_4
         try clear hcz11_5
         try clear hcz15_0
         try clear hcz15_1
         try clear hcz15_2
         try clear hcz15_3
         try clear hcz15_4
         try clear hcz15_5
         try clear hcz15_6
         try clear hcz20_0
         try clear hcz20_1
         try clear hcz20_2
         try clear hcz20_3
         try clear hcz20_4
         try clear hcz20_5
         try clear hcz20_6
         try clear hcz36_0
         try clear hcz36_1
         try clear hcz36_2
         try clear hcz38_0
         try clear hcz38_1
         try clear hcz38_2
         try clear hcz38_3
         try clear hcz38_4
         try clear hcz38_5
         try clear hcz43_0
         try clear hcz43_1
         try clear hcz43_2
         try clear hcz45_0
         try clear hcz45_1
         try clear hcz45_2
         try clear hcz45_3
         try clear hcz45_4
         try clear hcz45_5
         try clear hcz45_6
         try clear hcz4_0
         try clear hcz4_1
         try clear hcz4_2
         try clear hcz4_3
         try clear hcz4_4
         try clear hcz4_5
         try clear hcz4_6
         try clear hcz50_0
         try clear hcz50_1
         try clear hcz50_2
         try clear hcz50_3
         try clear hcz50_4
         try clear hcz50_5
         try clear hcz50_6
         try clear hcz56_0
         try clear hcz56_1
         try clear hcz56_2
         try clear hcz56_3
         try clear hcz56_4
         try clear hcz56_5
         try clear hcz56_6
         try clear hcz67_0
         try clear hcz67_1
         try clear hcz67_2
         try clear hcz67_3
         try clear hcz67_4
         try clear hcz67_5
         try clear hcz70_0
         try clear hcz70_1
         try clear hcz70_2
         try clear hcz70_3
         try clear hcz70_4
         try clear hcz70_5
         try clear hfz11_0
         try clear hfz11_1
         try clear hfz11_2
         try clear hfz11_3
         try clear hfz11_4
         try clear hfz11_5
         try clear hfz15_0
         try clear hfz15_1
         try clear hfz15_2
         try clear hfz15_3
         try clear hfz15_4
         try clear hfz15_5
         try clear hfz15_6
         try clear hfz20_0
         try clear hfz20_1
         try clear hfz20_2
         try clear hfz20_3
         try clear hfz20_4
         try clear hfz20_5
         try clear hfz20_6
         try clear hfz36_0
         try clear hfz36_1
         try clear hfz36_2
         try clear hfz38_0
         try clear hfz38_1
         try clear hfz38_2
         try clear hfz38_3
         try clear hfz38_4
         try clear hfz38_5
         try clear hfz43_0
         try clear hfz43_1
         try clear hfz43_2
         try clear hfz45_0
         try clear hfz45_1
         try clear hfz45_2
         try clear hfz45_3
         try clear hfz45_4
         try clear hfz45_5
         try clear hfz45_6
         try clear hfz4_0
         try clear hfz4_1
         try clear hfz4_2
         try clear hfz4_3
         try clear hfz4_4
         try clear hfz4_5
         try clear hfz4_6
         try clear hfz50_0
         try clear hfz50_1
         try clear hfz50_2
         try clear hfz50_3
         try clear hfz50_4
         try clear hfz50_5
         try clear hfz50_6
         try clear hfz56_0
         try clear hfz56_1
         try clear hfz56_2
         try clear hfz56_3
         try clear hfz56_4
         try clear hfz56_5
         try clear hfz56_6
         try clear hfz67_0
         try clear hfz67_1
         try clear hfz67_2
         try clear hfz67_3
         try clear hfz67_4
         try clear hfz67_5
         try clear hfz70_0
         try clear hfz70_1
         try clear hfz70_2
         try clear hfz70_3
         try clear hfz70_4
         try clear hfz70_5
         try clear p1
         try clear p17
         try clear p2
         try clear p22
         try clear p24
         try clear p25
         try clear p5
         try clear p53
         try clear p57
         try clear p6
         try clear p64
         try clear q1
         try clear q17
         try clear q2
         try clear q22
         try clear q24
         try clear q25
         try clear q5
         try clear q53
         try clear q57
         try clear q6
         obtain ⟨x4_4, x272005_4, u272005, rfl, HA, HK4, HO_272005, BK270, BK271, HB⟩ := hrel
         cases gk with
         | zero => exact absurd HA.out (by simp [r9Decode.l0])
         | succ k4 =>
          have H := HA.out
          clear HA
          simp only [r9Decode.l0] at H
          by_cases c71 : (wrap64 (x4_4 + 32)) ≤ (a0.size : Int)
          ·rw [if_pos c71] at H
           have c71b0 : decide ((wrap64 (x4_4 + 32)) ≤ (a0.size : Int)) = true := decide_eq_true c71
           clear c71
           by_cases c72 : 0 ≤ x4_4
           rotate_left
           ·rw [if_neg c72] at H
            exact absurd H (by simp)
           rw [if_pos c72] at H
           have c72b0 := eq_true c72
           have c72b1 : decide (0 ≤ x4_4) = true := decide_eq_true c72
           clear c72
           by_cases c73 : x4_4 ≤ (wrap64 (x4_4 + 32))
           rotate_left
           ·rw [if_neg c73] at H
            exact absurd H (by simp)
           rw [if_pos c73] at H
           have c73b0 := eq_true c73
           have c73b1 : decide (x4_4 ≤ (wrap64 (x4_4 + 32))) = true := decide_eq_true c73
           have c74b0 := eq_true (SQ.da : (wrap64 (x4_4 + 32)) ≤ (a0.size : Int))
           by_cases c75 : x272005_4.length < 8796093022208
           rotate_left
           ·rw [if_neg c75] at H
            exact absurd H (by simp)
           rw [if_pos c75] at H
           have LMc75 := A0_.mk c75
           clear c75
           obtain ⟨y276, hy276⟩ : ∃ y_ : List ByteArray, y_ = (x272005_4 ++ [a0.extract (x4_4 : Int).toNat ((wrap64 (x4_4 + 32)) : Int).toNat]) := ⟨_, rfl⟩
           replace H : (r9Decode.l0 k4 a0 (wrap64 (x4_4 + 32)) (wrap64 (bt a0 0)) x272001_6 x272002_45 x272003_45 x272004_64 y276) = some (r1, r2, r3, r4, r5, r6, r7) := by first | (rw [hy276]; with_reducible exact H) | (have H2_ := (Option.bind_some _ _).symm.trans H; rw [hy276]; with_reducible exact H2_) | (have H2_ := (Option.bind_some _ _).symm.trans H; with_reducible exact H2_) | with_reducible exact H | (rw [hy276]; exact H) | exact H
           have Ny276 := A0_.mk hy276
           clear hy276
           have H' := A0_.mk H
           clear H
           try go_wp2
           replace HO_272005 := A0_.mk (Kd.R_drew HO_272005.out)
           replace BK270 := A0_.mk (bD BK270.out)
           replace BK271 := A0_.mk (bD BK271.out)
           replace HB := A0_.mk (wD HB.out)
           refine start_ (n := 11) (S := fun w' => w'.cell? ⟨gb271, 0, none⟩ = some (.int .i64 (wrap64 (bt a0 0))) ∧ w'.cell? ⟨gb271, 1, none⟩ = some (.string x272001_6) ∧ w'.cell? ⟨gb271, 2, none⟩ = some (.bool x272002_45) ∧ w'.cell? ⟨gb271, 3, none⟩ = some (.string x272003_45) ∧ w'.cell? ⟨gb271, 4, none⟩ = some (.int .i64 x272004_64) ∧ w'.cell? ⟨gb271, 5, none⟩ = some (u272005)) (ds := [10]) #[false, false, false, false, false, false, false, false, false, false, false] (by kernel_rfl) rfl rfl ⟨(bC BK271.out 0).trans rfl, (bC BK271.out 1).trans rfl, (bC BK271.out 2).trans rfl, (bC BK271.out 3).trans rfl, (bC BK271.out 4).trans rfl, (bC BK271.out 5).trans rfl⟩ (fun hHeld => ?_); refine with_tabW r9Decode.tab26 r9Decode.bits26 (fun HT_ HW_ => ?_)
           generalize wr.drew = w76 at HO_272005 BK270 BK271 HB hHeld ⊢
           refine pure_ (i := 0) (N := some 101) (v := ?_) (a' := ?_) #[true, false, false, false, false, false, false, false, false, false, false] rfl rfl (any_of HT_.out (by kernel_rfl)) (fun _ _ _ h => h) (Or.inl ⟨by rfl, ?_⟩) ?_ ?_
           rotate_left
           ·intro w'
            go_simp
            with_reducible rfl
           rotate_left
           ·simp only [Act.put, List.setIfInBounds_toArray, List.set_cons_zero, List.set_cons_succ, i64_w, i32_w]
            rfl
           refine pure_ (i := 2) (N := some 103) (v := ?_) (a' := ?_) #[true, false, true, false, false, false, false, false, false, false, false] rfl rfl (any_of HT_.out (by kernel_rfl)) (fun _ _ _ h => h) (Or.inl ⟨by rfl, ?_⟩) ?_ ?_
           rotate_left
           ·intro w'
            go_simp
            with_reducible rfl
           rotate_left
           ·simp only [Act.put, List.setIfInBounds_toArray, List.set_cons_zero, List.set_cons_succ, i64_w, i32_w]
            rfl
           refine pure_ (i := 3) (N := some 104) (v := ?_) (a' := ?_) #[true, false, true, true, false, false, false, false, false, false, false] rfl rfl (any_of HT_.out (by kernel_rfl)) (fun _ _ _ h => h) (Or.inl ⟨by rfl, ?_⟩) ?_ ?_
           rotate_left
           ·intro w'
            go_simp
            with_reducible rfl
           rotate_left
           ·simp only [Act.put, List.setIfInBounds_toArray, List.set_cons_zero, List.set_cons_succ, i64_w, i32_w]
            rfl
           refine pure_ (i := 4) (N := some 105) (v := ?_) (a' := ?_) #[true, false, true, true, true, false, false, false, false, false, false] rfl rfl (any_of HT_.out (by kernel_rfl)) (fun _ _ _ h => h) (Or.inl ⟨by rfl, ?_⟩) ?_ ?_
           rotate_left
           ·intro w'
            go_simp
            with_reducible rfl
           rotate_left
           ·simp only [Act.put, List.setIfInBounds_toArray, List.set_cons_zero, List.set_cons_succ, i64_w, i32_w]
            rfl
           refine pure_ (i := 5) (N := some 106) (v := ?_) (a' := ?_) #[true, false, true, true, true, true, false, false, false, false, false] rfl rfl (any_of HT_.out (by kernel_rfl)) (fun _ _ _ h => h) (Or.inl ⟨by rfl, ?_⟩) ?_ ?_
           rotate_left
           ·intro w'
            go_simp
            with_reducible rfl
           rotate_left
           ·simp only [Act.put, List.setIfInBounds_toArray, List.set_cons_zero, List.set_cons_succ, i64_w, i32_w]
            rfl
           refine pure_ (i := 6) (N := some 107) (v := ?_) (a' := ?_) #[true, false, true, true, true, true, true, false, false, false, false] rfl rfl (any_of HT_.out (by kernel_rfl)) (fun _ _ _ h => h) (Or.inl ⟨by rfl, ?_⟩) ?_ ?_
           rotate_left
           ·intro w'
            go_simp
            with_reducible rfl
           rotate_left
           ·simp only [Act.put, List.setIfInBounds_toArray, List.set_cons_zero, List.set_cons_succ, i64_w, i32_w]
            rfl
           refine take_ (i := 1) (N := some 102) (v := ?_) (a' := ?_) #[true, true, true, true, true, true, true, false, false, false, false] rfl rfl (take_ofW HT_.out HW_.out (by kernel_rfl)) (fun _ _ _ h => h) (Or.inl ⟨by rfl, ?_⟩) hHeld ?_ ?_
           rotate_left
           ·rintro w' ⟨s0, s1, s2, s3, s4, s5⟩
            go_simp
            with_reducible rfl
           rotate_left
           ·simp only [Act.put, List.setIfInBounds_toArray, List.set_cons_zero, List.set_cons_succ, i64_w, i32_w]
            rfl
           refine one_ (i := 7) (N := some 108) #[true, true, true, true, true, true, true, true, false, false, false] rfl rfl (one_of HT_.out (by kernel_rfl)) (by decide) (fun K hK => ?_)
           refine value_ (w1 := ?_) (v := ?_) (by rfl) rfl ?_ ?_
           rotate_left 2
           ·go_simp
            constructor
            ·rfl
            ·rfl
           refine hK.out _ _ ⟨(bC (bA BK271.out _) 0).trans rfl, (bC (bA BK271.out _) 1).trans rfl, (bC (bA BK271.out _) 2).trans rfl, (bC (bA BK271.out _) 3).trans rfl, (bC (bA BK271.out _) 4).trans rfl, (bC (bA BK271.out _) 5).trans rfl⟩ (fun hHeld => ?_)
           clear hK K
           refine norm_ (a' := ?_) ?_ ?_
           rotate_left
           ·show Act.put _ (some 108) _ = _
            simp only [Act.put, List.setIfInBounds_toArray, List.set_cons_zero, List.set_cons_succ, i64_w, i32_w]
            rfl
           refine one_ (i := 8) (N := some 109) #[true, true, true, true, true, true, true, true, true, false, false] rfl rfl (one_of HT_.out (by kernel_rfl)) (by decide) (fun K hK => ?_)
           refine Kd.R_append_step Kd.string (w0 := w) w.heap.size (by rfl) (.tmp 102) (.tmp 108) 22 9 (.string ⟨#[]⟩) 16 rfl Tryd.underlying22 info9 rfl (by decide) (by omega) u272005 x272005_4 (a0.extract (x4_4 : Int).toNat ((wrap64 (x4_4 + 32)) : Int).toNat) [.string (a0.extract (x4_4 : Int).toNat ((wrap64 (x4_4 + 32)) : Int).toNat)] (fun _ => True) (fun _ => False) rfl rfl ?aP (fun _ hk => hk.elim) ?aF ?aO ?aB ?aS ?aL ?_
           (case aP => exact rfl)
           (case aB => exact SQ.bw)
           (case aF => exact (fun _ _ => trivial))
           (case aO => exact (by (with_reducible repeat (first | apply Kd.R_alloc | apply Kd.R_drewN | apply Kd.R_drew)); exact HO_272005.out))
           (case aS => exact (wZ SQ.bw))
           (case aL => have := LMc75.out; omega)
           intro v277 w77 ho hb hg hat
           rw [← Ny276.out] at ho
           have HO278 := A0_.mk (ho)
           replace BK270 := A0_.mk (blk_grown (g := gb270) SQ.kw hg (Kd.R_ne HO_272005.out BK270.out (by decide)))
           replace BK271 := A0_.mk (blk_grown (g := gb271) SQ.kw hg (Kd.R_ne HO_272005.out BK271.out (by decide)))
           replace HB := A0_.mk (hb)
           clear HO_272005
           clear ho hb hg hat
           obtain ⟨Ao78, co78, eo78⟩ := Kd.R_slice HO278.out
           (first | subst eo78 | (injection eo78 with f1_ f2_ f3_; have f4_ := f1_.symm; have f5_ := f3_.symm; clear f1_ f2_ f3_; subst f4_; subst f5_))
           refine hK.out _ _ ⟨(bC BK271.out 0).trans rfl, (bC BK271.out 1).trans rfl, (bC BK271.out 2).trans rfl, (bC BK271.out 3).trans rfl, (bC BK271.out 4).trans rfl, (bC BK271.out 5).trans rfl⟩ (fun hHeld => ?_)
           clear hK K
           refine norm_ (a' := ?_) ?_ ?_
           rotate_left
           ·show Act.put _ (some 109) _ = _
            simp only [Act.put, List.setIfInBounds_toArray, List.set_cons_zero, List.set_cons_succ, i64_w, i32_w]
            rfl
           refine pure_ (i := 9) (N := some 110) (v := ?_) (a' := ?_) #[true, true, true, true, true, true, true, true, true, true, false] rfl rfl (any_of HT_.out (by kernel_rfl)) (fun _ _ _ h => h) (Or.inl ⟨by rfl, ?_⟩) ?_ ?_
           rotate_left
           ·intro w'
            go_simp
            with_reducible rfl
           rotate_left
           ·simp only [Act.put, List.setIfInBounds_toArray, List.set_cons_zero, List.set_cons_succ, i64_w, i32_w]
            rfl
           refine last_ (i := 10) (N := none) #[true, true, true, true, true, true, true, true, true, true, true] rfl rfl (one_of HT_.out (by kernel_rfl)) (by decide) (fun K hK => ?_)
           have hs79 : w77.cell? ⟨gb271, 5, none⟩ = some (u272005) := (bC BK271.out 5).trans rfl
           have hfs79 := bF BK271.out 5
           have hns79_0 := NB270_271.out
           have hms79_0 := NB271_270.out
           refine skip_ (w1 := ?_) (by rfl) rfl ?_ ?_
           rotate_left
           ·go_simp
            rfl
           refine hK.out _ _ ?_
           clear hK K
           refine done_ (done_of HT_.out (by kernel_rfl)) ?_
           try go_wp2
           go_roundg k4
           case measure => have := HJ6.out; have := HJ45.out; have := HJ64.out; have := HK4.out; omega
           case rel => exact ⟨(wrap64 (x4_4 + 32)), (y276), (.slice Ao78 y276.length co78), (by first | rfl | (simp; done) | (simp [*]; done)), H', ⟨by have := HJ6.out; have := HJ45.out; have := HJ64.out; have := HK4.out; omega⟩, ⟨by (with_reducible repeat (first | apply Kd.R_alloc | apply Kd.R_drewN | apply Kd.R_drew)); exact Kd.R_mono (Kd.R_far (p := ⟨gb271, 5, none⟩) (Kd.R_types HO278.out BK271.out (by decide)) (fun _ hk => hk.2) (.slice Ao78 y276.length co78)) (fun _ hk => trivial)⟩, ⟨by (with_reducible repeat (first | refine bN ?_ _ | refine bD ?_ | refine bA ?_ _)); refine bR ?_ NB270_271.out _; (with_reducible repeat (first | refine bN ?_ _ | refine bD ?_ | refine bA ?_ _)); exact BK270.out⟩, ⟨by (with_reducible repeat (first | refine bN ?_ _ | refine bD ?_ | refine bA ?_ _)); refine bP (cs := #[.int .i64 (wrap64 (bt a0 0)), .string x272001_6, .bool x272002_45, .string x272003_45, .int .i64 x272004_64, u272005]) ?_ 5 _ rfl; (with_reducible repeat (first | refine bN ?_ _ | refine bD ?_ | refine bA ?_ _)); exact BK271.out⟩, ⟨SQ.bw⟩⟩
          ·rw [if_neg c71] at H
           have c71b0 : decide ((wrap64 (x4_4 + 32)) ≤ (a0.size : Int)) = false := decide_eq_false c71
           clear c71
           replace H := Option.bind_eq_some_iff.mp H
           obtain ⟨t279, A800, H⟩ := H
           try dsimp only at H
           have A80 := A0_.mk A800
           clear A800
           by_cases c81 : t279.toList = a0.toList
           ·rw [if_pos c81] at H
            have c81b0 : (t279.toList == a0.toList) = true := beq_iff_eq.mpr c81
            have c81b1 : (t279.toList != a0.toList) = false := bne_eq_false_iff_eq.mpr c81
            clear c81
            simp only [Option.some.injEq, Prod.mk.injEq] at H
            obtain ⟨rfl, rfl, rfl, rfl, rfl, rfl, rfl⟩ := H
            have hnb82 := NB271_270.out
            have hnc82 := NB270_271.out
            obtain ⟨hcz83_0, hcz83_1, hcz83_2, hcz83_3, hcz83_4, hcz83_5, hfz83_0, hfz83_1, hfz83_2, hfz83_3, hfz83_4, hfz83_5⟩ := SQ.cs6 BK271.out
            obtain ⟨Ao84, co84, eo84⟩ := Kd.R_slice HO_272005.out
            subst eo84
            go_wp2_with (first | ((with_reducible refine gC (f := 15) rfl ?_); refine gL (some 114) rfl rfl Tryd.func15 (by kernel_rfl) rfl #[.agg #[.int .i64 (wrap64 (bt a0 0)), .string x272001_6, .bool x272002_45, .string x272003_45, .int .i64 x272004_64, .slice Ao84 x272005_4.length co84]] rfl SQ.sm ?_; (with_reducible refine (r9Encode.calls k4 (wrap64 (bt a0 0)) x272001_6 x272002_45 x272003_45 x272004_64 _ _ x272005_4 t279 _ ?side1 ?side2 A80.out).mono ?_); (case side1 => repeat (first | exact (Kd.R_reads' HO_272005.out).2.2 | (with_reducible refine Kd.C_alloc ?_ _) | (with_reducible refine Kd.C_drewN ?_ _) | (with_reducible refine Kd.C_drew ?_))); (case side2 => exact (Kd.R_reads' HO_272005.out).2.1); rintro e w85 ⟨rfl, hb⟩; refine ⟨_, rfl, ?_⟩; replace HO_272005 := A0_.mk (Kd.R_below (by (with_reducible repeat (first | apply Kd.R_alloc | apply Kd.R_drewN | apply Kd.R_drew)); exact HO_272005.out) hb); replace BK270 := A0_.mk (bB (g := gb270) SQ.kw hb); replace BK271 := A0_.mk (bB (g := gb271) SQ.kw hb); replace HB := A0_.mk (wT SQ.bw hb); clear hb; obtain ⟨hcz86_0, hcz86_1, hcz86_2, hcz86_3, hcz86_4, hcz86_5, hfz86_0, hfz86_1, hfz86_2, hfz86_3, hfz86_4, hfz86_5⟩ := SQ.cs6 BK271.out; obtain ⟨hcz87_0, hcz87_1, hcz87_2, hcz87_3, hcz87_4, hcz87_5, hcz87_6, hfz87_0, hfz87_1, hfz87_2, hfz87_3, hfz87_4, hfz87_5, hfz87_6⟩ := SQ.cs7 BK270.out))
            refine bodyPost_ret (results_cell_row rfl _ _ gb270 32 #[.int .i64 (wrap64 (bt a0 0)), .string x272001_6, .bool x272002_45, .string x272003_45, .int .i64 x272004_64, .slice Ao84 x272005_4.length co84, .bool true] (0, 0) _ rfl (by (with_reducible repeat (first | refine bN ?_ _ | refine bD ?_ | refine bA ?_ _)); refine bP (cs := #[.int .i64 (wrap64 (bt a0 0)), .string x272001_6, .bool x272002_45, .string x272003_45, .int .i64 x272004_64, .slice Ao84 x272005_4.length co84, .bool x271006_45]) ?_ 6 _ rfl; (with_reducible repeat (first | refine bN ?_ _ | refine bD ?_ | refine bA ?_ _)); refine bP (cs := #[.int .i64 (wrap64 (bt a0 0)), .string x272001_6, .bool x272002_45, .string x272003_45, .int .i64 x272004_64, .slice none 0 0, .bool x271006_45]) ?_ 5 _ rfl; (with_reducible repeat (first | refine bN ?_ _ | refine bD ?_ | refine bA ?_ _)); refine bP (cs := #[.int .i64 (wrap64 (bt a0 0)), .string x272001_6, .bool x272002_45, .string x272003_45, .int .i64 x271004_45, .slice none 0 0, .bool x271006_45]) ?_ 4 _ rfl; (with_reducible repeat (first | refine bN ?_ _ | refine bD ?_ | refine bA ?_ _)); refine bP (cs := #[.int .i64 (wrap64 (bt a0 0)), .string x272001_6, .bool x272002_45, .string x271003_45, .int .i64 x271004_45, .slice none 0 0, .bool x271006_45]) ?_ 3 _ rfl; (with_reducible repeat (first | refine bN ?_ _ | refine bD ?_ | refine bA ?_ _)); refine bP (cs := #[.int .i64 (wrap64 (bt a0 0)), .string x272001_6, .bool x271002_45, .string x271003_45, .int .i64 x271004_45, .slice none 0 0, .bool x271006_45]) ?_ 2 _ rfl; (with_reducible repeat (first | refine bN ?_ _ | refine bD ?_ | refine bA ?_ _)); refine bP (cs := #[.int .i64 (wrap64 (bt a0 0)), .string x271001_45, .bool x271002_45, .string x271003_45, .int .i64 x271004_45, .slice none 0 0, .bool x271006_45]) ?_ 1 _ rfl; (with_reducible repeat (first | refine bN ?_ _ | refine bD ?_ | refine bA ?_ _)); refine bP (cs := #[.int .i64 x271000_45, .string x271001_45, .bool x271002_45, .string x271003_45, .int .i64 x271004_45, .slice none 0 0, .bool x271006_45]) ?_ 0 _ rfl; (with_reducible repeat (first | refine bN ?_ _ | refine bD ?_ | refine bA ?_ _)); exact BK270.out) Tryd.underlying32 rfl (by kernel_rfl)) rfl ?_
            exact ⟨_, SQ.er, by (with_reducible repeat (first | apply Kd.R_alloc | apply Kd.R_drewN | apply Kd.R_drew)); exact Kd.R_mono (Kd.R_far (p := ⟨gb270, 6, none⟩) (Kd.R_far (p := ⟨gb270, 5, none⟩) (Kd.R_far (p := ⟨gb270, 4, none⟩) (Kd.R_far (p := ⟨gb270, 3, none⟩) (Kd.R_far (p := ⟨gb270, 2, none⟩) (Kd.R_far (p := ⟨gb270, 1, none⟩) (Kd.R_far (p := ⟨gb270, 0, none⟩) (Kd.R_types HO_272005.out BK270.out (by decide)) (fun _ hk => hk.2) (.int .i64 (wrap64 (bt a0 0)))) (fun _ hk => hk.2) (.string x272001_6)) (fun _ hk => hk.2) (.bool x272002_45)) (fun _ hk => hk.2) (.string x272003_45)) (fun _ hk => hk.2) (.int .i64 x272004_64)) (fun _ hk => hk.2) (.slice Ao84 x272005_4.length co84)) (fun _ hk => hk.2) (.bool true)) (fun _ hk => trivial), SQ.bw⟩
           ·rw [if_neg c81] at H
            have c81b0 : (t279.toList == a0.toList) = false := beq_eq_false_iff_ne.mpr c81
            have c81b1 : (t279.toList != a0.toList) = true := bne_iff_ne.mpr c81
            simp only [Option.some.injEq, Prod.mk.injEq] at H
            obtain ⟨rfl, rfl, rfl, rfl, rfl, rfl, rfl⟩ := H
            have hnb88 := NB271_270.out
            have hnc88 := NB270_271.out
            obtain ⟨hcz89_0, hcz89_1, hcz89_2, hcz89_3, hcz89_4, hcz89_5, hfz89_0, hfz89_1, hfz89_2, hfz89_3, hfz89_4, hfz89_5⟩ := SQ.cs6 BK271.out
            obtain ⟨Ao90, co90, eo90⟩ := Kd.R_slice HO_272005.out
            subst eo90
            go_wp2_with (first | ((with_reducible refine gC (f := 15) rfl ?_); refine gL (some 114) rfl rfl Tryd.func15 (by kernel_rfl) rfl #[.agg #[.int .i64 (wrap64 (bt a0 0)), .string x272001_6, .bool x272002_45, .string x272003_45, .int .i64 x272004_64, .slice Ao90 x272005_4.length co90]] rfl SQ.sm ?_; (with_reducible refine (r9Encode.calls k4 (wrap64 (bt a0 0)) x272001_6 x272002_45 x272003_45 x272004_64 _ _ x272005_4 t279 _ ?side1 ?side2 A80.out).mono ?_); (case side1 => repeat (first | exact (Kd.R_reads' HO_272005.out).2.2 | (with_reducible refine Kd.C_alloc ?_ _) | (with_reducible refine Kd.C_drewN ?_ _) | (with_reducible refine Kd.C_drew ?_))); (case side2 => exact (Kd.R_reads' HO_272005.out).2.1); rintro e w91 ⟨rfl, hb⟩; refine ⟨_, rfl, ?_⟩; replace HO_272005 := A0_.mk (Kd.R_below (by (with_reducible repeat (first | apply Kd.R_alloc | apply Kd.R_drewN | apply Kd.R_drew)); exact HO_272005.out) hb); replace BK270 := A0_.mk (bB (g := gb270) SQ.kw hb); replace BK271 := A0_.mk (bB (g := gb271) SQ.kw hb); replace HB := A0_.mk (wT SQ.bw hb); clear hb; obtain ⟨hcz92_0, hcz92_1, hcz92_2, hcz92_3, hcz92_4, hcz92_5, hcz92_6, hfz92_0, hfz92_1, hfz92_2, hfz92_3, hfz92_4, hfz92_5, hfz92_6⟩ := SQ.cs7 BK270.out))
            refine bodyPost_ret (results_cell_row rfl _ _ gb270 32 #[.int .i64 0, .string (⟨#[]⟩ : ByteArray), .bool false, .string (⟨#[]⟩ : ByteArray), .int .i64 0, .slice none 0 0, .bool false] (0, 0) _ rfl (by (with_reducible repeat (first | refine bN ?_ _ | refine bD ?_ | refine bA ?_ _)); refine bP (cs := #[.int .i64 0, .string (⟨#[]⟩ : ByteArray), .bool false, .string (⟨#[]⟩ : ByteArray), .int .i64 0, .slice none 0 0, .bool x271006_45]) ?_ 6 _ rfl; (with_reducible repeat (first | refine bN ?_ _ | refine bD ?_ | refine bA ?_ _)); refine bP (cs := #[.int .i64 0, .string (⟨#[]⟩ : ByteArray), .bool false, .string (⟨#[]⟩ : ByteArray), .int .i64 0, .slice none 0 0, .bool x271006_45]) ?_ 5 _ rfl; (with_reducible repeat (first | refine bN ?_ _ | refine bD ?_ | refine bA ?_ _)); refine bP (cs := #[.int .i64 0, .string (⟨#[]⟩ : ByteArray), .bool false, .string (⟨#[]⟩ : ByteArray), .int .i64 x271004_45, .slice none 0 0, .bool x271006_45]) ?_ 4 _ rfl; (with_reducible repeat (first | refine bN ?_ _ | refine bD ?_ | refine bA ?_ _)); refine bP (cs := #[.int .i64 0, .string (⟨#[]⟩ : ByteArray), .bool false, .string x271003_45, .int .i64 x271004_45, .slice none 0 0, .bool x271006_45]) ?_ 3 _ rfl; (with_reducible repeat (first | refine bN ?_ _ | refine bD ?_ | refine bA ?_ _)); refine bP (cs := #[.int .i64 0, .string (⟨#[]⟩ : ByteArray), .bool x271002_45, .string x271003_45, .int .i64 x271004_45, .slice none 0 0, .bool x271006_45]) ?_ 2 _ rfl; (with_reducible repeat (first | refine bN ?_ _ | refine bD ?_ | refine bA ?_ _)); refine bP (cs := #[.int .i64 0, .string x271001_45, .bool x271002_45, .string x271003_45, .int .i64 x271004_45, .slice none 0 0, .bool x271006_45]) ?_ 1 _ rfl; (with_reducible repeat (first | refine bN ?_ _ | refine bD ?_ | refine bA ?_ _)); refine bP (cs := #[.int .i64 x271000_45, .string x271001_45, .bool x271002_45, .string x271003_45, .int .i64 x271004_45, .slice none 0 0, .bool x271006_45]) ?_ 0 _ rfl; (with_reducible repeat (first | refine bN ?_ _ | refine bD ?_ | refine bA ?_ _)); exact BK270.out) Tryd.underlying32 rfl (by kernel_rfl)) rfl ?_
            exact ⟨_, SQ.er, by first | exact Kd.R_nil _ _ _ _ _ | exact Kd.N_nil _ _ _ _ _ | exact Kd.V_nil _ _ _ _ _ | exact Kd.Q_nil _ _ _ _ _ | exact Kd.S_nil _ _ _ _ _, SQ.bw⟩

end Go.Proofs.YtklakmooaffjpaaDoor.PNod
