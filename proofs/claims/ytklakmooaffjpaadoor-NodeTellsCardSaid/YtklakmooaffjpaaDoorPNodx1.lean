import Derived.Test.YtklakmooaffjpaaDoorSQ
import Derived.Test.YtklakmooaffjpaaDoorPNodx0
section
-- Written by a program of this session for this seat. Not trusted: Lean checks it.
namespace Go.Proofs.YtklakmooaffjpaaDoor.PNod
open Go.RowKit Go.Proofs.YtklakmooaffjpaaDoorW.PrintWords Go.Proofs.YtklakmooaffjpaaDoorW.PrintLast Go.Proofs.YtklakmooaffjpaaDoorW.PrintMore
attribute [local go_sem] max2_int min2_int max_two min_two max_three min_three max_four min_four   -- for this text's walks alone
set_option linter.unusedVariables false
set_option linter.unusedSimpArgs false
open Go.Proofs.YtklakmooaffjpaaDoor.HW Go.Proofs.YtklakmooaffjpaaDoor.DgsB

/-! ### k9Long: function 20 -/
def k9Long.l0 : Nat → List ByteArray → Int → Int → Int → Option (Bool)
 | 0, _, _, _, _ => none
 | k + 1, x0, x1, x5, x6 => if x6 < (x0.length : Int) then (if x5 ≤ x1 then (if 0 ≤ x6 then (k9Long.l0 k x0 x1 (wrap64 (x5 + (wrap64 (1 + (mn ((rdOf ByteArray.empty x0 x6).size : Int) x1))))) (wrap64 (x6 + 1))) else (none)) else (some (decide (x5 > x1)))) else (some (decide (x5 > x1)))
def k9Long.f (k : Nat) (l0 : List ByteArray) (a1 : Int) : Option (Bool) := k9Long.l0 k l0 a1 0 0
set_option maxHeartbeats 8000000 in
set_option maxRecDepth 100000 in
theorem k9Long.calls (k : Nat) (A0 : Option Addr) (c0 : Nat) (l0 : List ByteArray) (a1 : Int) (r : Bool) (w : World) (hr0 : Kd.C Kd.string w A0 l0.length l0) (hc0 : l0.length ≤ c0) (h : k9Long.f k l0 a1 = some r) :
  Calls Tryd.prog 20 #[.slice A0 l0.length c0, .int .i64 a1] w fun e w' => e = .returned (.bool r) ∧ Below w.heap.size w w' := by
 have HR0 := A0_.mk hr0
 have HC0 := A0_.mk hc0
 clear hr0 hc0
 have HB := A0_.mk (Below.refl w.heap.size w)
 have H : (k9Long.l0 k l0 a1 0 0) = some r := h
 clear h
 have H' := A0_.mk H
 clear H
 go_enter Tryd.func20, Tryd.ntmps20
 go_wp2
 go_loopg [5, 6] k (fun kq v5 v6 w' => ∃ (x5_1 : Int) (x6_1 : Int), v5 = .int .i64 x5_1 ∧ v6 = .int .i64 x6_1 ∧ A0_ (k9Long.l0 kq l0 a1 x5_1 x6_1 = some r) ∧ A0_ (kq ≤ k) ∧ A0_ (Below w.heap.size w w'))
 case atStart => exact ⟨(0), (0), (by first | rfl | (simp; done) | (simp [*]; done)), (by first | rfl | (simp; done) | (simp [*]; done)), H', ⟨Nat.le_refl _⟩, ⟨SQ.bw⟩⟩
 case round =>
  clear H'
  try clear c2
  try clear p2
  obtain ⟨x5_1, x6_1, rfl, rfl, HA, HK1, HB⟩ := hrel
  cases gk with
  | zero => exact absurd HA.out (by simp [k9Long.l0])
  | succ k1 =>
   have H := HA.out
   clear HA
   simp only [k9Long.l0] at H
   by_cases c3 : x6_1 < (l0.length : Int)
   ·rw [if_pos c3] at H
    have c3b0 : decide (x6_1 < (l0.length : Int)) = true := decide_eq_true c3
    clear c3
    by_cases c4 : x5_1 ≤ a1
    ·rw [if_pos c4] at H
     have c4b0 : decide (x5_1 ≤ a1) = true := decide_eq_true c4
     clear c4
     by_cases c5 : 0 ≤ x6_1
     rotate_left
     ·rw [if_neg c5] at H
      exact absurd H (by simp)
     rw [if_pos c5] at H
     have c5b0 : decide (0 ≤ x6_1) = true := decide_eq_true c5
     clear c5
     obtain ⟨ji6, hji6⟩ : ∃ j_ : Int, (mn ((rdOf ByteArray.empty l0 x6_1).size : Int) a1) = j_ := ⟨_, rfl⟩
     replace H : (k9Long.l0 k1 l0 a1 (wrap64 (x5_1 + (wrap64 (1 + (ji6))))) (wrap64 (x6_1 + 1))) = some r := by first | (rw [hji6] at H; exact H) | (simp only [hji6] at H ⊢; exact H)
     have hji6_ : (if a1 < ((rdOf ByteArray.empty l0 x6_1).size : Int) then a1 else ((rdOf ByteArray.empty l0 x6_1).size : Int)) = ji6 := hji6
     have H' := A0_.mk H
     clear H
     have p101 : 0 ≤ (x6_1 : Int) := SQ.da
     have q101 : x6_1 < (l0.length : Int) := SQ.da
     obtain ⟨ad101, e101, hx101_0⟩ := Kd.at_string HR0.out x6_1 p101 q101
     cases e101
     replace hx101_0 := (HB.out.cell (World.block_lt_of_cell? w _ hx101_0)).trans hx101_0
     replace p101 := eq_true p101
     replace q101 := eq_true q101
     go_wp2
     go_roundg k1
     case measure => have := HK1.out; omega
     case rel => exact ⟨(wrap64 (x5_1 + (wrap64 (1 + (ji6))))), (wrap64 (x6_1 + 1)), (by first | rfl | (simp; done) | (simp only [← hji6] <;> (first | rfl | simp)) | (simp [*]; done)), (by first | rfl | (simp; done) | (simp [*]; done)), H', ⟨by have := HK1.out; omega⟩, ⟨SQ.bw⟩⟩
    ·rw [if_neg c4] at H
     have c4b0 : decide (x5_1 ≤ a1) = false := decide_eq_false c4
     clear c4
     obtain rfl := Option.some.inj H
     go_wp2
     go_ret
     exact ⟨SQ.er, SQ.bw⟩
   ·rw [if_neg c3] at H
    have c3b0 : decide (x6_1 < (l0.length : Int)) = false := decide_eq_false c3
    clear c3
    obtain rfl := Option.some.inj H
    go_wp2
    go_ret
    exact ⟨SQ.er, SQ.bw⟩

/-! ### u9Long: function 7 -/
def u9Long.f (k : Nat) (a0_0 : Int) (a0_1 : ByteArray) (a0_2 : Bool) (a0_3 : ByteArray) (a0_4 : Int) (l0_5 : List ByteArray) : Option (Bool) := if (a0_1.size : Int) > 200 then (some true) else (if (a0_3.size : Int) > 200 then (some true) else ((k9Long.f k l0_5 3000).bind fun t103 => (some t103)))
set_option maxHeartbeats 8000000 in
set_option maxRecDepth 100000 in
theorem u9Long.calls (k : Nat) (a0_0 : Int) (a0_1 : ByteArray) (a0_2 : Bool) (a0_3 : ByteArray) (a0_4 : Int) (A0_5 : Option Addr) (c0_5 : Nat) (l0_5 : List ByteArray) (r : Bool) (w : World) (hr0_5 : Kd.C Kd.string w A0_5 l0_5.length l0_5) (hc0_5 : l0_5.length ≤ c0_5) (h : u9Long.f k a0_0 a0_1 a0_2 a0_3 a0_4 l0_5 = some r) :
  Calls Tryd.prog 7 #[.agg #[.int .i64 a0_0, .string a0_1, .bool a0_2, .string a0_3, .int .i64 a0_4, .slice A0_5 l0_5.length c0_5]] w fun e w' => e = .returned (.bool r) ∧ Below w.heap.size w w' := by
 have hu24 := Tryd.underlying24
 have HR0_5 := A0_.mk hr0_5
 have HC0_5 := A0_.mk hc0_5
 clear hr0_5 hc0_5
 have HB := A0_.mk (Below.refl w.heap.size w)
 have H : (if (a0_1.size : Int) > 200 then (some true) else (if (a0_3.size : Int) > 200 then (some true) else ((k9Long.f k l0_5 3000).bind fun t103 => (some t103)))) = some r := h
 clear h
 by_cases c2 : (a0_1.size : Int) > 200
 ·rw [if_pos c2] at H
  have c2b0 : decide (200 < (a0_1.size : Int)) = true := decide_eq_true c2
  have c2b1 : decide (200 < a0_1.size) = true := decide_eq_true (by omega)
  clear c2
  obtain rfl := Option.some.inj H
  go_enter Tryd.func7, Tryd.ntmps7
  go_wp2_with (first | ((with_reducible refine gD (N := 1) rfl ?_); (try (refine gG (by rfl) ?_; dsimp only)); refine xE ?hg (N := 1) ?hd (cs := #[.int .i64 a0_0, .string a0_1, .bool a0_2, .string a0_3, .int .i64 a0_4, .slice A0_5 l0_5.length c0_5]) (t := 24) ?hr ?_; (case hd => rfl); (case hg => rfl); (case hr => first | (go_simp; done) | (go_simp; rfl)); intro gb102 hg w3 hbox hb; have BK102 := A0_.mk (hbox); have GW102 := A0_.mk ((by rw [hg]; exact (wZ SQ.bw) : w.heap.size ≤ gb102)); have GE102 := A0_.mk ((by rw [hg]; exact (wZ SQ.bw) : w.heap.size ≤ gb102)); replace HB := A0_.mk (wT SQ.bw hb); clear hb hbox hg; obtain ⟨hcz4_0, hcz4_1, hcz4_2, hcz4_3, hcz4_4, hcz4_5, hfz4_0, hfz4_1, hfz4_2, hfz4_3, hfz4_4, hfz4_5⟩ := SQ.cs6 BK102.out))
  go_ret
  exact ⟨SQ.er, SQ.bw⟩
 ·rw [if_neg c2] at H
  have c2b0 : decide (200 < (a0_1.size : Int)) = false := decide_eq_false c2
  have c2b1 : decide (200 < a0_1.size) = false := decide_eq_false (by omega)
  clear c2
  by_cases c5 : (a0_3.size : Int) > 200
  ·rw [if_pos c5] at H
   have c5b0 : decide (200 < (a0_3.size : Int)) = true := decide_eq_true c5
   have c5b1 : decide (200 < a0_3.size) = true := decide_eq_true (by omega)
   clear c5
   obtain rfl := Option.some.inj H
   go_enter Tryd.func7, Tryd.ntmps7
   go_wp2_with (first | ((with_reducible refine gD (N := 1) rfl ?_); (try (refine gG (by rfl) ?_; dsimp only)); refine xE ?hg (N := 1) ?hd (cs := #[.int .i64 a0_0, .string a0_1, .bool a0_2, .string a0_3, .int .i64 a0_4, .slice A0_5 l0_5.length c0_5]) (t := 24) ?hr ?_; (case hd => rfl); (case hg => rfl); (case hr => first | (go_simp; done) | (go_simp; rfl)); intro gb102 hg w6 hbox hb; have BK102 := A0_.mk (hbox); have GW102 := A0_.mk ((by rw [hg]; exact (wZ SQ.bw) : w.heap.size ≤ gb102)); have GE102 := A0_.mk ((by rw [hg]; exact (wZ SQ.bw) : w.heap.size ≤ gb102)); replace HB := A0_.mk (wT SQ.bw hb); clear hb hbox hg; obtain ⟨hcz7_0, hcz7_1, hcz7_2, hcz7_3, hcz7_4, hcz7_5, hfz7_0, hfz7_1, hfz7_2, hfz7_3, hfz7_4, hfz7_5⟩ := SQ.cs6 BK102.out))
   go_ret
   exact ⟨SQ.er, SQ.bw⟩
  ·rw [if_neg c5] at H
   have c5b0 : decide (200 < (a0_3.size : Int)) = false := decide_eq_false c5
   have c5b1 : decide (200 < a0_3.size) = false := decide_eq_false (by omega)
   clear c5
   replace H := Option.bind_eq_some_iff.mp H
   obtain ⟨t103, A80, H⟩ := H
   try dsimp only at H
   have A8 := A0_.mk A80
   clear A80
   obtain rfl := Option.some.inj H
   go_enter Tryd.func7, Tryd.ntmps7
   go_wp2_with (first | ((with_reducible refine gD (N := 1) rfl ?_); (try (refine gG (by rfl) ?_; dsimp only)); refine xE ?hg (N := 1) ?hd (cs := #[.int .i64 a0_0, .string a0_1, .bool a0_2, .string a0_3, .int .i64 a0_4, .slice A0_5 l0_5.length c0_5]) (t := 24) ?hr ?_; (case hd => rfl); (case hg => rfl); (case hr => first | (go_simp; done) | (go_simp; rfl)); intro gb102 hg w9 hbox hb; have BK102 := A0_.mk (hbox); have GW102 := A0_.mk ((by rw [hg]; exact (wZ SQ.bw) : w.heap.size ≤ gb102)); have GE102 := A0_.mk ((by rw [hg]; exact (wZ SQ.bw) : w.heap.size ≤ gb102)); replace HB := A0_.mk (wT SQ.bw hb); clear hb hbox hg; obtain ⟨hcz10_0, hcz10_1, hcz10_2, hcz10_3, hcz10_4, hcz10_5, hfz10_0, hfz10_1, hfz10_2, hfz10_3, hfz10_4, hfz10_5⟩ := SQ.cs6 BK102.out) | (go_at_call 20; (with_reducible refine (k9Long.calls k _ _ l0_5 3000 t103 _ ?side1 ?side2 A8.out).mono ?_); (case side1 => repeat (first | exact (Kd.C_below HR0_5.out HB.out) | (with_reducible refine Kd.C_alloc ?_ _) | (with_reducible refine Kd.C_drewN ?_ _) | (with_reducible refine Kd.C_drew ?_))); (case side2 => exact HC0_5.out); rintro e w11 ⟨rfl, hb⟩; replace BK102 := A0_.mk (bB (g := gb102) SQ.kw hb); replace HB := A0_.mk (wT SQ.bw hb); clear hb))
   go_ret
   exact ⟨SQ.er, SQ.bw⟩

/-! ### node_hashes: function 26 -/
def node_hashes.f (a0_0 : Int) (a0_1 : ByteArray) (a0_2 : Bool) (a0_3 : ByteArray) (a0_4 : Int) (l0_5 : List ByteArray) : Option (Bool) := if 0 ≤ a0_4 ∧ a0_4 < 65536 then some (NodH.hashR a0_4.toNat l0_5) else none
theorem node_hashes.calls (a0_0 : Int) (a0_1 : ByteArray) (a0_2 : Bool) (a0_3 : ByteArray) (a0_4 : Int) (A0_5 : Option Addr) (c0_5 : Nat) (l0_5 : List ByteArray) (r : Bool) (w : World) (hr0_5 : Kd.C Kd.string w A0_5 l0_5.length l0_5) (hc0_5 : l0_5.length ≤ c0_5) (h : node_hashes.f a0_0 a0_1 a0_2 a0_3 a0_4 l0_5 = some r) :
  Calls Tryd.prog 26 #[.agg #[.int .i64 a0_0, .string a0_1, .bool a0_2, .string a0_3, .int .i64 a0_4, .slice A0_5 l0_5.length c0_5]] w fun e w' => e = .returned (.bool r) ∧ Below w.heap.size w w' := by
 unfold node_hashes.f at h
 split at h
 ·rename_i hq
  rw [← Option.some.inj h]
  have := NodH.hashes_c a0_0 a0_1 a0_2 a0_3 a0_4.toNat A0_5 c0_5 l0_5 w hr0_5 (by omega)
  rw [Int.toNat_of_nonneg hq.1] at this
  exact this
 ·cases h


/-! ### nibble_small: function 47 -/
def nibble_small.l0 : Nat → ByteArray → Int → Int → Option (Bool)
 | 0, _, _, _ => none
 | k + 1, x0, x5, x6 => if x6 < x5 then (if 0 ≤ x6 then (if x6 < (x0.size : Int) then (if (bt x0 x6) > 15 then (some false) else (nibble_small.l0 k x0 x5 (wrap64 (x6 + 1)))) else (none)) else (none)) else (some true)
def nibble_small.f (k : Nat) (a0 : ByteArray) : Option (Bool) := nibble_small.l0 k a0 (a0.size : Int) 0
set_option maxHeartbeats 8000000 in
set_option maxRecDepth 100000 in
theorem nibble_small.calls (k : Nat) (a0 : ByteArray) (r : Bool) (w : World) (h : nibble_small.f k a0 = some r) :
  Calls Tryd.prog 47 #[.string a0] w fun e w' => e = .returned (.bool r) ∧ Drawn0 w w' := by
 have H : (nibble_small.l0 k a0 (a0.size : Int) 0) = some r := h
 clear h
 have H' := A0_.mk H
 clear H
 go_enter Tryd.func47, Tryd.ntmps47
 go_wp2
 go_loopg [6] k (fun kq v6 w' => ∃ (x6_1 : Int), v6 = .int .i64 x6_1 ∧ A0_ (nibble_small.l0 kq a0 (a0.size : Int) x6_1 = some r) ∧ A0_ (kq ≤ k) ∧ Drawn0 w w')
 case atStart => exact ⟨(0), (by first | rfl | (simp; done) | (simp [*]; done)), H', ⟨Nat.le_refl _⟩, by repeat (first | exact Drawn0.refl _ | apply Drawn0.step)⟩
 case round =>
  clear H'
  obtain ⟨x6_1, rfl, HA, HK1, ⟨m1, rfl⟩⟩ := hrel
  cases gk with
  | zero => exact absurd HA.out (by simp [nibble_small.l0])
  | succ k1 =>
   have H := HA.out
   clear HA
   simp only [nibble_small.l0] at H
   by_cases c2 : x6_1 < (a0.size : Int)
   ·rw [if_pos c2] at H
    have c2b0 : decide (x6_1 < (a0.size : Int)) = true := decide_eq_true c2
    clear c2
    by_cases c3 : 0 ≤ x6_1
    rotate_left
    ·rw [if_neg c3] at H
     exact absurd H (by simp)
    rw [if_pos c3] at H
    have c3b0 : decide (0 ≤ x6_1) = true := decide_eq_true c3
    clear c3
    by_cases c4 : x6_1 < (a0.size : Int)
    rotate_left
    ·rw [if_neg c4] at H
     exact absurd H (by simp)
    rw [if_pos c4] at H
    have c4b0 : decide (x6_1 < (a0.size : Int)) = true := decide_eq_true c4
    clear c4
    by_cases c6 : (bt a0 x6_1) > 15
    ·rw [if_pos c6] at H
     have c6b0 : decide (15 < (bt a0 x6_1)) = true := decide_eq_true c6
     clear c6
     obtain rfl := Option.some.inj H
     have p5 : 0 ≤ (x6_1 : Int) := SQ.da
     have q5 : x6_1 < (a0.size : Int) := SQ.da
     have hx5 := bt_at a0 x6_1
     replace p5 := eq_true p5
     replace q5 := eq_true q5
     go_wp2
     go_ret
     exact ⟨by first | rfl | (simp; done) | (simp [*]; done), by repeat (first | exact Drawn0.refl _ | apply Drawn0.step)⟩
    ·rw [if_neg c6] at H
     have c6b0 : decide (15 < (bt a0 x6_1)) = false := decide_eq_false c6
     clear c6
     have H' := A0_.mk H
     clear H
     have p5 : 0 ≤ (x6_1 : Int) := SQ.da
     have q5 : x6_1 < (a0.size : Int) := SQ.da
     have hx5 := bt_at a0 x6_1
     replace p5 := eq_true p5
     replace q5 := eq_true q5
     go_wp2
     go_roundg k1
     case measure => have := HK1.out; omega
     case rel => exact ⟨(wrap64 (x6_1 + 1)), (by first | rfl | (simp; done) | (simp [*]; done)), H', ⟨by have := HK1.out; omega⟩, by repeat (first | exact Drawn0.refl _ | apply Drawn0.step)⟩
   ·rw [if_neg c2] at H
    have c2b0 : decide (x6_1 < (a0.size : Int)) = false := decide_eq_false c2
    clear c2
    obtain rfl := Option.some.inj H
    go_wp2
    go_ret
    exact ⟨by first | rfl | (simp; done) | (simp [*]; done), by repeat (first | exact Drawn0.refl _ | apply Drawn0.step)⟩

/-! ### nibble_Good: function 27 -/
def nibble_Good.f (k : Nat) (a0 : ByteArray) : Option (Bool) := if (a0.size : Int) ≤ 16 then ((nibble_small.f k a0).bind fun t105 => (some t105)) else (some false)
set_option maxHeartbeats 8000000 in
set_option maxRecDepth 100000 in
theorem nibble_Good.calls (k : Nat) (a0 : ByteArray) (r : Bool) (w : World) (h : nibble_Good.f k a0 = some r) :
  Calls Tryd.prog 27 #[.string a0] w fun e w' => e = .returned (.bool r) ∧ Below w.heap.size w w' := by
 have HB := A0_.mk (Below.refl w.heap.size w)
 have H : (if (a0.size : Int) ≤ 16 then ((nibble_small.f k a0).bind fun t105 => (some t105)) else (some false)) = some r := h
 clear h
 by_cases c2 : (a0.size : Int) ≤ 16
 ·rw [if_pos c2] at H
  have c2b0 : decide ((a0.size : Int) ≤ 16) = true := decide_eq_true c2
  have c2b1 : decide (a0.size ≤ 16) = true := decide_eq_true (by omega)
  clear c2
  replace H := Option.bind_eq_some_iff.mp H
  obtain ⟨t105, A30, H⟩ := H
  try dsimp only at H
  have A3 := A0_.mk A30
  clear A30
  obtain rfl := Option.some.inj H
  go_enter Tryd.func27, Tryd.ntmps27
  go_wp2_with (first | (go_at_call 47; (with_reducible refine (nibble_small.calls k a0 t105 _ A3.out).mono ?_); rintro e w' ⟨rfl, ⟨nd, rfl⟩⟩))
  go_ret
  exact ⟨SQ.er, SQ.bw⟩
 ·rw [if_neg c2] at H
  have c2b0 : decide ((a0.size : Int) ≤ 16) = false := decide_eq_false c2
  have c2b1 : decide (a0.size ≤ 16) = false := decide_eq_false (by omega)
  clear c2
  obtain rfl := Option.some.inj H
  go_enter Tryd.func27, Tryd.ntmps27
  go_wp2
  go_ret
  exact ⟨SQ.er, SQ.bw⟩

end Go.Proofs.YtklakmooaffjpaaDoor.PNod
end

section
-- Written by a program of this session for this seat. Not trusted: Lean checks it.
namespace Go.Proofs.YtklakmooaffjpaaDoor.PNod
open Go.RowKit Go.Proofs.YtklakmooaffjpaaDoorW.PrintWords Go.Proofs.YtklakmooaffjpaaDoorW.PrintLast Go.Proofs.YtklakmooaffjpaaDoorW.PrintMore
attribute [local go_sem] max2_int min2_int max_two min_two max_three min_three max_four min_four   -- for this text's walks alone
set_option linter.unusedVariables false
set_option linter.unusedSimpArgs false
open Go.Proofs.YtklakmooaffjpaaDoor.HW Go.Proofs.YtklakmooaffjpaaDoor.DgsB

theorem eqA52 (d : Nat) (w : World) (x0 y0 : Int) (x1 y1 : ByteArray) (x2 y2 : Bool) (x3 y3 : ByteArray) (x4 y4 : Int) :
  (Op.equalIn (d + 2) 52 (.agg #[.int .i64 x0, .string x1, .bool x2, .string x3, .int .i64 x4]) (.agg #[.int .i64 y0, .string y1, .bool y2, .string y3, .int .i64 y4])).run Tryd.prog w = .ok (x0 == y0 && (x1.toList == y1.toList && (x2 == y2 && (x3.toList == y3.toList && (x4 == y4))))) w := by
 refine eqA_of Tryd.underlying52 (by kernel_rfl) ?_
 refine eqf_cons (by rfl) (by go_simp; rfl) (by go_simp; rfl) (by go_simp) ?_
 refine eqf_cons (by rfl) (by go_simp; rfl) (by go_simp; rfl) (by go_simp) ?_
 refine eqf_cons (by rfl) (by go_simp; rfl) (by go_simp; rfl) (by go_simp) ?_
 refine eqf_cons (by rfl) (by go_simp; rfl) (by go_simp; rfl) (by go_simp) ?_
 exact eqf_last (by rfl) (by go_simp; rfl) (by go_simp; rfl) (by go_simp)
end Go.Proofs.YtklakmooaffjpaaDoor.PNod
end
