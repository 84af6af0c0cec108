/-
  Numbers as bytes, the greatest first.
-/
namespace Go.Proofs.YtiajgmocmnjijaaDoor.Dig
/-- The last n bytes of a number. -/
def dg : Nat → Nat → List Int
  | 0, _ => []
  | n + 1, v => dg n (v / 256) ++ [((v % 256 : Nat) : Int)]
/-- The number of bytes. -/
def de (l : List Int) : Nat := l.foldl (fun a b => a * 256 + b.toNat) 0
theorem de_snoc (l : List Int) (b : Int) : de (l ++ [b]) = de l * 256 + b.toNat := by simp [de]
theorem de_dg (n v : Nat) : de (dg n v) = v % 256 ^ n := by
  induction n generalizing v with
  | zero => simp [dg, de, Nat.mod_one]
  | succ n ih =>
    rw [dg, de_snoc, ih, Int.toNat_natCast, Nat.pow_succ, Nat.mul_comm (256 ^ n), Nat.mod_mul]
    omega
theorem dg_de (n : Nat) : ∀ l : List Int, l.length = n → (∀ x ∈ l, 0 ≤ x ∧ x < 256) → dg n (de l) = l := by
  induction n with
  | zero => intro l hl _; rw [List.length_eq_zero_iff.1 hl]; rfl
  | succ n ih =>
    intro l hl hr
    have hne : l ≠ [] := by intro h; rw [h] at hl; simp at hl
    obtain ⟨i, b, rfl⟩ : ∃ i b, l = i ++ [b] := ⟨l.dropLast, l.getLast hne, (List.dropLast_concat_getLast hne).symm⟩
    have hb := hr b (by simp)
    rw [de_snoc, dg, show (de i * 256 + b.toNat) / 256 = de i by omega, show (de i * 256 + b.toNat) % 256 = b.toNat by omega, ih i (by simpa using hl) (fun x hx => hr x (by simp [hx]))]
    congr 2
    omega
theorem de_lt (l : List Int) (hr : ∀ x ∈ l, 0 ≤ x ∧ x < 256) : de l < 256 ^ l.length := by
  have h := dg_de l.length l rfl hr
  have h2 := de_dg l.length (de l)
  rw [h] at h2
  rw [h2]
  exact Nat.mod_lt _ (Nat.pow_pos (by decide))
end Go.Proofs.YtiajgmocmnjijaaDoor.Dig
