import Derived.Test.YtklakmooaffjpaaDoorPDgsx1
import Derived.Test.YtklakmooaffjpaaDoorDgsR
section
-- Written by a program of this session for this seat. Not trusted: Lean checks it.
namespace Go.Proofs.YtklakmooaffjpaaDoor.PDgs
open Go.RowKit Go.Proofs.YtklakmooaffjpaaDoorW.PrintWords Go.Proofs.YtklakmooaffjpaaDoorW.PrintLast Go.Proofs.YtklakmooaffjpaaDoorW.PrintMore
attribute [local go_sem] max2_int min2_int max_two min_two max_three min_three max_four min_four   -- for this text's walks alone
set_option linter.unusedVariables false
set_option linter.unusedSimpArgs false
open Go.Proofs.YtklakmooaffjpaaDoor.HW

/-! ### r4cube: function 63 -/
-- NOT PRINTED: function 50 (r4Constants)

-- NOT PRINTED: function 31 (r4Of)

end Go.Proofs.YtklakmooaffjpaaDoor.PDgs
end

section
-- Written by a program of this session for this seat. Not trusted: Lean checks it.
namespace Go.Proofs.YtklakmooaffjpaaDoor.PDgs
open Go.RowKit Go.Proofs.YtklakmooaffjpaaDoorW.PrintWords Go.Proofs.YtklakmooaffjpaaDoorW.PrintLast Go.Proofs.YtklakmooaffjpaaDoorW.PrintMore
attribute [local go_sem] max2_int min2_int max_two min_two max_three min_three max_four min_four   -- for this text's walks alone
set_option linter.unusedVariables false
set_option linter.unusedSimpArgs false
open Go.Proofs.YtklakmooaffjpaaDoor.HW

end Go.Proofs.YtklakmooaffjpaaDoor.PDgs
end

section
/-
  Numbers as bytes, the greatest first.
-/
namespace Go.Proofs.YtklakmooaffjpaaDoor.Dig
/-- The last n bytes of a number. -/
def dg : Nat → Nat → List Int
  | 0, _ => []
  | n + 1, v => dg n (v / 256) ++ [((v % 256 : Nat) : Int)]
theorem dg_len (n v : Nat) : (dg n v).length = n := by
  induction n generalizing v with
  | zero => rfl
  | succ n ih => simp [dg, ih]
theorem dg_range (n v : Nat) : ∀ x ∈ dg n v, 0 ≤ x ∧ x < 256 := by
  induction n generalizing v with
  | zero => intro x h; cases h
  | succ n ih =>
    intro x h
    rw [dg, List.mem_append] at h
    rcases h with h | h
    · exact ih _ x h
    · simp at h; subst h; omega
end Go.Proofs.YtklakmooaffjpaaDoor.Dig
end

section
/-
  What the printed functions of digest and of the reference compute: Pad, turn, Hex.
-/
namespace Go.Proofs.YtklakmooaffjpaaDoor.DgsL
open Go.RowKit Go.Proofs.YtklakmooaffjpaaDoorW.PrintWords Go.Proofs.YtklakmooaffjpaaDoorW.PrintLast Go.Proofs.YtklakmooaffjpaaDoorW.PrintMore Go.Proofs.YtklakmooaffjpaaDoor.Str Go.Proofs.YtklakmooaffjpaaDoor.DgsP Go.Proofs.YtklakmooaffjpaaDoor.Dig Go.Proofs.YtklakmooaffjpaaDoor.PDgs
set_option linter.unusedVariables false
/-- How many noughts stand in what is behind a text. -/
def zr (n : Nat) : Nat := 63 - (n + 8) % 64
/-- What stands behind a text of n bytes. -/
def padB (n : Nat) : List Int := 128 :: (List.replicate (zr n) 0 ++ dg 8 (8 * n))
theorem padB_len (n : Nat) : (padB n).length = zr n + 9 := by simp [padB, dg_len]
theorem zr_full (n : Nat) : (n + (zr n + 9)) % 64 = 0 := by unfold zr; omega
theorem R_padB (n : Nat) : R (padB n) := by
  intro x hx
  simp only [padB, List.mem_cons, List.mem_append] at hx
  rcases hx with rfl | h | h
  · decide
  · rw [List.eq_of_mem_replicate h]; decide
  · exact dg_range _ _ x h
theorem dg8 (v : Nat) : dg 8 v = [((v / 2 ^ 56 % 256 : Nat) : Int), ((v / 2 ^ 48 % 256 : Nat) : Int), ((v / 2 ^ 40 % 256 : Nat) : Int), ((v / 2 ^ 32 % 256 : Nat) : Int), ((v / 2 ^ 24 % 256 : Nat) : Int), ((v / 2 ^ 16 % 256 : Nat) : Int), ((v / 2 ^ 8 % 256 : Nat) : Int), ((v % 256 : Nat) : Int)] := by
  simp [dg, Nat.div_div_eq_div_mul]
theorem shr_at (v : Nat) (s : Nat) (hs : s < 64) : shr .u64 (v : Int) (s : Int) = ((v / 2 ^ s : Nat) : Int) := by
  unfold shr
  rw [Int.toNat_natCast, show IntKind.u64.bits = 64 from rfl, Nat.min_eq_left (by omega)]
  simp
theorem padl_eq (x : List Int) (v : Nat) (hx : x.length ≤ 1000) : digest_Pad.l0 9 x (v : Int) 0 = some (strOfNums (x ++ dg 8 v)) := by
  have e : ∀ (y : List Int) (i : Nat) (k : Nat), i < 8 → y.length ≤ 1000 + i → digest_Pad.l0 (k + 1) y (v : Int) (i : Int) = digest_Pad.l0 k (y ++ [((v / 2 ^ (8 * (7 - i)) % 256 : Nat) : Int)]) (v : Int) ((i + 1 : Nat) : Int) := by
    intro y i k hi hy
    have w1 : wrap64 (7 - (i : Int)) = ((7 - i : Nat) : Int) := by rw [show (7 : Int) - i = ((7 - i : Nat) : Int) by omega]; exact wr (by omega) (by omega)
    have w2 : wrap64 (8 * ((7 - i : Nat) : Int)) = ((8 * (7 - i) : Nat) : Int) := by rw [show (8 : Int) * ((7 - i : Nat) : Int) = ((8 * (7 - i) : Nat) : Int) by omega]; exact wr (by omega) (by omega)
    have w3 : wrap64 ((i : Int) + 1) = ((i + 1 : Nat) : Int) := wr (by omega) (by omega)
    rw [digest_Pad.l0, w1, w2, w3, shr_at v _ (by omega), if_pos (by omega), if_pos (by omega), if_pos (by omega)]
    congr 2
  have e0 := e x 0 8 (by decide) (by omega)
  rw [show ((0 : Nat) : Int) = 0 from rfl] at e0
  rw [e0, e _ 1 7 (by decide) (by simp; omega), e _ 2 6 (by decide) (by simp; omega), e _ 3 5 (by decide) (by simp; omega), e _ 4 4 (by decide) (by simp; omega), e _ 5 3 (by decide) (by simp; omega), e _ 6 2 (by decide) (by simp; omega), e _ 7 1 (by decide) (by simp; omega)]
  rw [digest_Pad.l0, if_neg (by decide), dg8]
  simp
theorem pad_eq (n : Nat) (hn : n ≤ 576460752303423488) (a : Int) (ha : mx a 0 = (n : Int)) : digest_Pad.f 9 a = some (strOfNums (padB n)) := by
  have w1 : wrap64 ((n : Int) + 8) = ((n + 8 : Nat) : Int) := wr (by omega) (by omega)
  have w2 : Int.tmod ((n + 8 : Nat) : Int) 64 = (((n + 8) % 64 : Nat) : Int) := by rw [Int.tmod_eq_emod_of_nonneg (by omega)]; omega
  have w3 : wrap64 (63 - (((n + 8) % 64 : Nat) : Int)) = (zr n : Int) := by rw [show (63 : Int) - (((n + 8) % 64 : Nat) : Int) = (zr n : Int) by unfold zr; omega]; exact wr (by omega) (by unfold zr; omega)
  have hz : zr n ≤ 63 := by unfold zr; omega
  have w4 : wrap64 (1 + (zr n : Int)) = ((zr n + 1 : Nat) : Int) := by rw [show (1 : Int) + (zr n : Int) = ((zr n + 1 : Nat) : Int) by omega]; exact wr (by omega) (by omega)
  have w5 : wrap64 (((zr n + 1 : Nat) : Int) + 8) = ((zr n + 9 : Nat) : Int) := by rw [show ((zr n + 1 : Nat) : Int) + 8 = ((zr n + 9 : Nat) : Int) by omega]; exact wr (by omega) (by omega)
  have w6 : IntKind.u64.wrap (IntKind.u64.wrap (n : Int) * 8) = ((8 * n : Nat) : Int) := by rw [IntKind.wrap_u64, IntKind.wrap_u64]; omega
  unfold digest_Pad.f
  rw [ha, w1, w2, w3, w4, w5, w6, if_pos (by omega), if_pos (by omega), if_pos (by omega), Option.bind_some, Int.toNat_natCast, if_pos (by simp)]
  rw [show ((List.replicate (zr n + 1) (0 : Int)).set (0 : Int).toNat 128) = 128 :: List.replicate (zr n) 0 by rfl, padl_eq _ _ (by simp; omega)]
  rfl
end Go.Proofs.YtklakmooaffjpaaDoor.DgsL
end
