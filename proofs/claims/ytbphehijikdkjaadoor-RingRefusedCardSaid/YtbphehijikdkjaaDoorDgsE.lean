/-
  The program's step and the reference's are one.
-/
import Derived.Test.YtbphehijikdkjaaDoorDgsT
namespace Go.Proofs.YtbphehijikdkjaaDoor.DgsE
open Go.RowKit Go.Proofs.YtbphehijikdkjaaDoorW.PrintWords Go.Proofs.YtbphehijikdkjaaDoorW.PrintMore Go.Proofs.YtbphehijikdkjaaDoor.Cm Go.Proofs.YtbphehijikdkjaaDoor.Str Go.Proofs.YtbphehijikdkjaaDoor.DgsP Go.Proofs.YtbphehijikdkjaaDoor.DgsH Go.Proofs.YtbphehijikdkjaaDoor.DgsS Go.Proofs.YtbphehijikdkjaaDoor.DgsB Go.Proofs.YtbphehijikdkjaaDoor.DgsR Go.Proofs.YtbphehijikdkjaaDoor.DgsT
set_option linter.unusedVariables false
/-- A word, byte by byte. -/
def acc (bs : List Nat) (j : Nat) : Nat → Nat
  | 0 => 0
  | c + 1 => ((acc bs j c) <<< 8) % M ||| bs.getD (4 * j + c) 0
theorem getD_set (l : List Nat) (i j x : Nat) (hi : i < l.length) : (l.set i x).getD j 0 = if i = j then x else l.getD j 0 := by
  rw [List.getD_eq_getElem?_getD, List.getD_eq_getElem?_getD, List.getElem?_set]
  split
  · rfl
  · rfl
theorem getD_zero (n j : Nat) : (List.replicate n 0).getD j 0 = 0 := by
  rw [List.getD_eq_getElem?_getD, List.getElem?_replicate]; split <;> rfl
theorem sch1_at (bs : List Nat) : ∀ i, i ≤ 64 → ∀ j, j < 16 → (sch1 bs i).getD j 0 = acc bs j (min (i - 4 * j) 4)
  | 0, _, j, _ => by rw [sch1, getD_zero]; simp [acc]
  | i + 1, hi, j, hj => by
    have ih := sch1_at bs i (by omega)
    rw [sch1, getD_set _ _ _ _ (by rw [sch1_len]; omega)]
    by_cases h : i / 4 = j
    · rw [if_pos h, h, ih j hj, show min (i + 1 - 4 * j) 4 = (i - 4 * j) + 1 by omega, show min (i - 4 * j) 4 = i - 4 * j by omega, acc, show 4 * j + (i - 4 * j) = i by omega]
    · rw [if_neg h, ih j hj]; congr 1; omega
theorem sch1_past (bs : List Nat) : ∀ i, i ≤ 64 → ∀ j, 16 ≤ j → (sch1 bs i).getD j 0 = 0
  | 0, _, j, _ => by rw [sch1, getD_zero]
  | i + 1, hi, j, hj => by
    rw [sch1, getD_set _ _ _ _ (by rw [sch1_len]; omega), if_neg (by omega)]
    exact sch1_past bs i (by omega) j hj
theorem schR_at (bs : List Nat) : ∀ i, i ≤ 16 → ∀ j, (schR bs i).getD j 0 = if j < i then word4 (bs.getD (4 * j) 0) (bs.getD (4 * j + 1) 0) (bs.getD (4 * j + 2) 0) (bs.getD (4 * j + 3) 0) else 0
  | 0, _, j => by rw [schR, getD_zero, if_neg (by omega)]
  | i + 1, hi, j => by
    rw [schR, getD_set _ _ _ _ (by rw [schR_len]; omega), if_pos (by omega : i < 16)]
    by_cases h : i = j
    · subst h; rw [if_pos rfl, if_pos (by omega)]
    · rw [if_neg h, schR_at bs i (by omega)]
      by_cases h2 : j < i
      · rw [if_pos h2, if_pos (by omega)]
      · rw [if_neg h2, if_neg (by omega)]
theorem acc4 (bs : List Nat) (hb : ∀ x ∈ bs, x < 256) (j : Nat) : acc bs j 4 = word4 (bs.getD (4 * j) 0) (bs.getD (4 * j + 1) 0) (bs.getD (4 * j + 2) 0) (bs.getD (4 * j + 3) 0) := by
  have h0 := getD_lt hb (by decide) (4 * j)
  have h1 := getD_lt hb (by decide) (4 * j + 1)
  have h2 := getD_lt hb (by decide) (4 * j + 2)
  have h3 := getD_lt hb (by decide) (4 * j + 3)
  simp only [acc, Nat.add_zero]
  generalize bs.getD (4 * j) 0 = b0 at *
  generalize bs.getD (4 * j + 1) 0 = b1 at *
  generalize bs.getD (4 * j + 2) 0 = b2 at *
  generalize bs.getD (4 * j + 3) 0 = b3 at *
  have s : ∀ x n : Nat, x <<< n = x * 2 ^ n := fun x n => Nat.shiftLeft_eq x n
  have e0 : (0 <<< 8 % M ||| b0) = b0 := by simp
  have l1 : b0 <<< 8 ||| b1 < 2 ^ 16 := Nat.or_lt_two_pow (by rw [s]; omega) (by omega)
  have e1 : b0 <<< 8 % M = b0 <<< 8 := Nat.mod_eq_of_lt (by rw [s, M_eq]; omega)
  have l2 : (b0 <<< 8 ||| b1) <<< 8 ||| b2 < 2 ^ 24 := Nat.or_lt_two_pow (by rw [s]; omega) (by omega)
  have e2 : (b0 <<< 8 ||| b1) <<< 8 % M = (b0 <<< 8 ||| b1) <<< 8 := Nat.mod_eq_of_lt (by rw [s, M_eq]; omega)
  have e3 : ((b0 <<< 8 ||| b1) <<< 8 ||| b2) <<< 8 % M = ((b0 <<< 8 ||| b1) <<< 8 ||| b2) <<< 8 := Nat.mod_eq_of_lt (by rw [s ((b0 <<< 8 ||| b1) <<< 8 ||| b2), M_eq]; omega)
  rw [e0, e1, e2, e3, word4, Nat.mod_eq_of_lt (show b0 <<< 24 < M by rw [s, M_eq]; omega), Nat.mod_eq_of_lt (show b1 <<< 16 < M by rw [s, M_eq]; omega), Nat.mod_eq_of_lt (show b2 <<< 8 < M by rw [s, M_eq]; omega)]
  simp only [Nat.shiftLeft_or_distrib, ← Nat.shiftLeft_add]
theorem list_getD (a b : List Nat) (hl : a.length = b.length) (h : ∀ j, j < a.length → a.getD j 0 = b.getD j 0) : a = b := by
  apply List.ext_getElem hl
  intro j h1 h2
  have := h j h1
  rwa [List.getD_eq_getElem?_getD, List.getD_eq_getElem?_getD, List.getElem?_eq_getElem h1, List.getElem?_eq_getElem h2] at this
theorem sch_16 (bs : List Nat) (hb : ∀ x ∈ bs, x < 256) : schR bs 16 = sch1 bs 64 := by
  refine list_getD _ _ (by rw [schR_len, sch1_len]) fun j hj => ?_
  rw [schR_at bs 16 (by omega)]
  by_cases h : j < 16
  · rw [if_pos h, sch1_at bs 64 (by omega) j h, show min (64 - 4 * j) 4 = 4 by omega, acc4 bs hb]
  · rw [if_neg h, sch1_past bs 64 (by omega) j (by omega)]
theorem sch_up (bs : List Nat) (hb : ∀ x ∈ bs, x < 256) : ∀ n, schR bs (n + 16) = sch2 (sch1 bs 64) n
  | 0 => sch_16 bs hb
  | n + 1 => by
    rw [show n + 1 + 16 = (n + 16) + 1 by omega, schR, sch2, sch_up bs hb n, if_neg (by omega), show n + 16 - 16 = n by omega, show n + 16 - 7 = n + 9 by omega, show n + 16 - 15 = n + 1 by omega, show n + 16 - 2 = n + 14 by omega]
theorem step_block (hs bs : List Nat) (hb : ∀ x ∈ bs, x < 256) : stepR kt hs bs = blockL hs bs := by
  rw [stepR, blockL, stk_kt, sched, ← sch_up bs hb 48]
end Go.Proofs.YtbphehijikdkjaaDoor.DgsE
