/-
  What the printed functions of digest and of the reference compute: Pad, turn, Hex.
-/
import Derived.Test.YtklakmooaffjpaaDoorDig
import Derived.Test.YtklakmooaffjpaaDoorDgsR
namespace Go.Proofs.YtklakmooaffjpaaDoor.DgsL
open Go.RowKit Go.Proofs.YtklakmooaffjpaaDoorW.PrintWords Go.Proofs.YtklakmooaffjpaaDoorW.PrintLast Go.Proofs.YtklakmooaffjpaaDoorW.PrintMore Go.Proofs.YtklakmooaffjpaaDoor.Str Go.Proofs.YtklakmooaffjpaaDoor.DgsP Go.Proofs.YtklakmooaffjpaaDoor.Dig Go.Proofs.YtklakmooaffjpaaDoor.PDgs
set_option linter.unusedVariables false
/-- How many noughts stand in what is behind a text. -/
def zr (n : Nat) : Nat := 63 - (n + 8) % 64
/-- What stands behind a text of n bytes. -/
def padB (n : Nat) : List Int := 128 :: (List.replicate (zr n) 0 ++ dg 8 (8 * n))
theorem padB_len (n : Nat) : (padB n).length = zr n + 9 := by simp [padB, dg_len]
theorem zr_full (n : Nat) : (n + (zr n + 9)) % 64 = 0 := by unfold zr; omega
theorem R_padB (n : Nat) : R (padB n) := by
  intro x hx
  simp only [padB, List.mem_cons, List.mem_append] at hx
  rcases hx with rfl | h | h
  · decide
  · rw [List.eq_of_mem_replicate h]; decide
  · exact dg_range _ _ x h
theorem dg8 (v : Nat) : dg 8 v = [((v / 2 ^ 56 % 256 : Nat) : Int), ((v / 2 ^ 48 % 256 : Nat) : Int), ((v / 2 ^ 40 % 256 : Nat) : Int), ((v / 2 ^ 32 % 256 : Nat) : Int), ((v / 2 ^ 24 % 256 : Nat) : Int), ((v / 2 ^ 16 % 256 : Nat) : Int), ((v / 2 ^ 8 % 256 : Nat) : Int), ((v % 256 : Nat) : Int)] := by
  simp [dg, Nat.div_div_eq_div_mul]
theorem shr_at (v : Nat) (s : Nat) (hs : s < 64) : shr .u64 (v : Int) (s : Int) = ((v / 2 ^ s : Nat) : Int) := by
  unfold shr
  rw [Int.toNat_natCast, show IntKind.u64.bits = 64 from rfl, Nat.min_eq_left (by omega)]
  simp
theorem padl_eq (x : List Int) (v : Nat) (hx : x.length ≤ 1000) : digest_Pad.l0 9 x (v : Int) 0 = some (strOfNums (x ++ dg 8 v)) := by
  have e : ∀ (y : List Int) (i : Nat) (k : Nat), i < 8 → y.length ≤ 1000 + i → digest_Pad.l0 (k + 1) y (v : Int) (i : Int) = digest_Pad.l0 k (y ++ [((v / 2 ^ (8 * (7 - i)) % 256 : Nat) : Int)]) (v : Int) ((i + 1 : Nat) : Int) := by
    intro y i k hi hy
    have w1 : wrap64 (7 - (i : Int)) = ((7 - i : Nat) : Int) := by rw [show (7 : Int) - i = ((7 - i : Nat) : Int) by omega]; exact wr (by omega) (by omega)
    have w2 : wrap64 (8 * ((7 - i : Nat) : Int)) = ((8 * (7 - i) : Nat) : Int) := by rw [show (8 : Int) * ((7 - i : Nat) : Int) = ((8 * (7 - i) : Nat) : Int) by omega]; exact wr (by omega) (by omega)
    have w3 : wrap64 ((i : Int) + 1) = ((i + 1 : Nat) : Int) := wr (by omega) (by omega)
    rw [digest_Pad.l0, w1, w2, w3, shr_at v _ (by omega), if_pos (by omega), if_pos (by omega), if_pos (by omega)]
    congr 2
  have e0 := e x 0 8 (by decide) (by omega)
  rw [show ((0 : Nat) : Int) = 0 from rfl] at e0
  rw [e0, e _ 1 7 (by decide) (by simp; omega), e _ 2 6 (by decide) (by simp; omega), e _ 3 5 (by decide) (by simp; omega), e _ 4 4 (by decide) (by simp; omega), e _ 5 3 (by decide) (by simp; omega), e _ 6 2 (by decide) (by simp; omega), e _ 7 1 (by decide) (by simp; omega)]
  rw [digest_Pad.l0, if_neg (by decide), dg8]
  simp
theorem pad_eq (n : Nat) (hn : n ≤ 576460752303423488) (a : Int) (ha : mx a 0 = (n : Int)) : digest_Pad.f 9 a = some (strOfNums (padB n)) := by
  have w1 : wrap64 ((n : Int) + 8) = ((n + 8 : Nat) : Int) := wr (by omega) (by omega)
  have w2 : Int.tmod ((n + 8 : Nat) : Int) 64 = (((n + 8) % 64 : Nat) : Int) := by rw [Int.tmod_eq_emod_of_nonneg (by omega)]; omega
  have w3 : wrap64 (63 - (((n + 8) % 64 : Nat) : Int)) = (zr n : Int) := by rw [show (63 : Int) - (((n + 8) % 64 : Nat) : Int) = (zr n : Int) by unfold zr; omega]; exact wr (by omega) (by unfold zr; omega)
  have hz : zr n ≤ 63 := by unfold zr; omega
  have w4 : wrap64 (1 + (zr n : Int)) = ((zr n + 1 : Nat) : Int) := by rw [show (1 : Int) + (zr n : Int) = ((zr n + 1 : Nat) : Int) by omega]; exact wr (by omega) (by omega)
  have w5 : wrap64 (((zr n + 1 : Nat) : Int) + 8) = ((zr n + 9 : Nat) : Int) := by rw [show ((zr n + 1 : Nat) : Int) + 8 = ((zr n + 9 : Nat) : Int) by omega]; exact wr (by omega) (by omega)
  have w6 : IntKind.u64.wrap (IntKind.u64.wrap (n : Int) * 8) = ((8 * n : Nat) : Int) := by rw [IntKind.wrap_u64, IntKind.wrap_u64]; omega
  unfold digest_Pad.f
  rw [ha, w1, w2, w3, w4, w5, w6, if_pos (by omega), if_pos (by omega), if_pos (by omega), Option.bind_some, Int.toNat_natCast, if_pos (by simp)]
  rw [show ((List.replicate (zr n + 1) (0 : Int)).set (0 : Int).toNat 128) = 128 :: List.replicate (zr n) 0 by rfl, padl_eq _ _ (by simp; omega)]
  rfl
theorem rpadl_eq (x : List Int) (v : Nat) (hx : x.length ≤ 1000) : r4Pad.l1 9 x (v : Int) 7 = some (strOfNums (x ++ dg 8 v)) := by
  have e : ∀ (y : List Int) (i : Nat) (k : Nat), i < 8 → y.length ≤ 1008 → r4Pad.l1 (k + 1) y (v : Int) (i : Int) = r4Pad.l1 k (y ++ [((v / 2 ^ (8 * i) % 256 : Nat) : Int)]) (v : Int) ((i : Int) - 1) := by
    intro y i k hi hy
    have w2 : wrap64 (8 * (i : Int)) = ((8 * i : Nat) : Int) := by rw [show (8 : Int) * (i : Int) = ((8 * i : Nat) : Int) by omega]; exact wr (by omega) (by omega)
    have w4 : IntKind.u64.wrap ((8 * i : Nat) : Int) = ((8 * i : Nat) : Int) := by rw [IntKind.wrap_u64]; omega
    have w3 : wrap64 ((i : Int) - 1) = (i : Int) - 1 := by unfold wrap64; omega
    rw [r4Pad.l1, w2, w4, w3, shr_at v _ (by omega), if_pos (by omega), if_pos (by omega), if_pos (by omega)]
    congr 2
  have q := fun y k i (h : i < 8) hy => e y i k h hy
  have e7 := e x 7 8 (by decide) (by omega)
  rw [show ((7 : Nat) : Int) = 7 from rfl] at e7
  have s6 : (7 : Int) - 1 = ((6 : Nat) : Int) := rfl
  have s5 : ((6 : Nat) : Int) - 1 = ((5 : Nat) : Int) := rfl
  have s4 : ((5 : Nat) : Int) - 1 = ((4 : Nat) : Int) := rfl
  have s3 : ((4 : Nat) : Int) - 1 = ((3 : Nat) : Int) := rfl
  have s2 : ((3 : Nat) : Int) - 1 = ((2 : Nat) : Int) := rfl
  have s1 : ((2 : Nat) : Int) - 1 = ((1 : Nat) : Int) := rfl
  have s0 : ((1 : Nat) : Int) - 1 = ((0 : Nat) : Int) := rfl
  rw [e7, s6, e _ 6 7 (by decide) (by simp; omega), s5, e _ 5 6 (by decide) (by simp; omega), s4, e _ 4 5 (by decide) (by simp; omega), s3, e _ 3 4 (by decide) (by simp; omega), s2, e _ 2 3 (by decide) (by simp; omega), s1, e _ 1 2 (by decide) (by simp; omega), s0, e _ 0 1 (by decide) (by simp; omega)]
  rw [r4Pad.l1, if_neg (by decide), dg8]
  simp
theorem rpad_zeros (n : Nat) (hn : n ≤ 576460752303423488) : ∀ m j : Nat, m + j = zr n → r4Pad.l0 (m + 10) (n : Int) (128 :: List.replicate j 0) = some (strOfNums (padB n))
  | 0, j, h => by
    have w6 : IntKind.u64.wrap (IntKind.u64.wrap (n : Int) * 8) = ((8 * n : Nat) : Int) := by rw [IntKind.wrap_u64, IntKind.wrap_u64]; omega
    have hj : j = zr n := by omega
    subst hj
    have w1 : wrap64 ((n : Int) + (((128 :: List.replicate (zr n) 0 : List Int).length : Nat) : Int)) = ((n + (zr n + 1) : Nat) : Int) := by rw [List.length_cons, List.length_replicate, ← Int.natCast_add]; exact wr (by omega) (by unfold zr; omega)
    rw [r4Pad.l0, w1, w6, if_pos (by rw [Int.tmod_eq_emod_of_nonneg (by omega)]; unfold zr; omega), rpadl_eq _ _ (by simp; unfold zr; omega)]
    rfl
  | m + 1, j, h => by
    have hz : zr n = 63 - (n + 8) % 64 := rfl
    have w1 : wrap64 ((n : Int) + (((128 :: List.replicate j 0 : List Int).length : Nat) : Int)) = ((n + (j + 1) : Nat) : Int) := by rw [List.length_cons, List.length_replicate, ← Int.natCast_add]; exact wr (by omega) (by omega)
    rw [show m + 1 + 10 = (m + 10) + 1 by omega, r4Pad.l0, w1, if_neg (by rw [Int.tmod_eq_emod_of_nonneg (by omega)]; omega), if_pos (by simp; omega)]
    have e : (128 :: List.replicate j 0 : List Int) ++ [0] = 128 :: List.replicate (j + 1) 0 := by rw [List.replicate_succ']; rfl
    rw [e]
    exact rpad_zeros n hn m (j + 1) (by omega)
theorem rpad_eq (n : Nat) (hn : n ≤ 576460752303423488) (a : Int) (ha : mx 0 a = (n : Int)) : ∃ k, r4Pad.f k a = some (strOfNums (padB n)) :=
  ⟨zr n + 10, by unfold r4Pad.f; rw [ha]; exact rpad_zeros n hn (zr n) 0 (by omega)⟩
theorem turn_eq (x n : Nat) (hx : x < M) (hn : 0 < n ∧ n < 32) : r4turn.f (x : Int) (n : Int) = some (rr x n : Int) := by
  have w1 : IntKind.u64.wrap (32 - (n : Int)) = ((32 - n : Nat) : Int) := by rw [IntKind.wrap_u64]; omega
  unfold r4turn.f
  rw [w1, if_pos (by omega), if_pos (by omega)]
  congr 1
  unfold shr shl
  rw [Int.toNat_natCast, Int.toNat_natCast, show IntKind.u32.bits = 32 from rfl, Nat.min_eq_left (by omega), Nat.min_eq_left (by omega), IntKind.wrap_u32, shl_cast, shr_cast, bits_or _ _ (shr_lt x n hx) (Nat.mod_lt _ (by decide))]
  rw [rr, Nat.or_comm]
end Go.Proofs.YtklakmooaffjpaaDoor.DgsL
