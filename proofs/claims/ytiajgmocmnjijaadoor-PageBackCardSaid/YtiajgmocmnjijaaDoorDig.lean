/-
  Numbers as bytes, the greatest first.
-/
namespace Go.Proofs.YtiajgmocmnjijaaDoor.Dig
/-- The last n bytes of a number. -/
def dg : Nat → Nat → List Int
  | 0, _ => []
  | n + 1, v => dg n (v / 256) ++ [((v % 256 : Nat) : Int)]
/-- The number of bytes. -/
def de (l : List Int) : Nat := l.foldl (fun a b => a * 256 + b.toNat) 0
theorem dg_len (n v : Nat) : (dg n v).length = n := by
  induction n generalizing v with
  | zero => rfl
  | succ n ih => simp [dg, ih]
theorem de_snoc (l : List Int) (b : Int) : de (l ++ [b]) = de l * 256 + b.toNat := by simp [de]
theorem de_dg (n v : Nat) : de (dg n v) = v % 256 ^ n := by
  induction n generalizing v with
  | zero => simp [dg, de, Nat.mod_one]
  | succ n ih =>
    rw [dg, de_snoc, ih, Int.toNat_natCast, Nat.pow_succ, Nat.mul_comm (256 ^ n), Nat.mod_mul]
    omega
theorem dg_de (n : Nat) : ∀ l : List Int, l.length = n → (∀ x ∈ l, 0 ≤ x ∧ x < 256) → dg n (de l) = l := by
  induction n with
  | zero => intro l hl _; rw [List.length_eq_zero_iff.1 hl]; rfl
  | succ n ih =>
    intro l hl hr
    have hne : l ≠ [] := by intro h; rw [h] at hl; simp at hl
    obtain ⟨i, b, rfl⟩ : ∃ i b, l = i ++ [b] := ⟨l.dropLast, l.getLast hne, (List.dropLast_concat_getLast hne).symm⟩
    have hb := hr b (by simp)
    rw [de_snoc, dg, show (de i * 256 + b.toNat) / 256 = de i by omega, show (de i * 256 + b.toNat) % 256 = b.toNat by omega, ih i (by simpa using hl) (fun x hx => hr x (by simp [hx]))]
    congr 2
    omega
theorem de_lt (l : List Int) (hr : ∀ x ∈ l, 0 ≤ x ∧ x < 256) : de l < 256 ^ l.length := by
  have h := dg_de l.length l rfl hr
  have h2 := de_dg l.length (de l)
  rw [h] at h2
  rw [h2]
  exact Nat.mod_lt _ (Nat.pow_pos (by decide))
theorem dg_range (n v : Nat) : ∀ x ∈ dg n v, 0 ≤ x ∧ x < 256 := by
  induction n generalizing v with
  | zero => intro x h; cases h
  | succ n ih =>
    intro x h
    rw [dg, List.mem_append] at h
    rcases h with h | h
    · exact ih _ x h
    · simp at h; subst h; omega
theorem dg_inj (n a b : Nat) (ha : a < 256 ^ n) (hb : b < 256 ^ n) (h : dg n a = dg n b) : a = b := by
  have h2 := congrArg de h
  rw [de_dg, de_dg, Nat.mod_eq_of_lt ha, Nat.mod_eq_of_lt hb] at h2
  exact h2
/-- Texts of numbers stand as the numbers do. -/
theorem dg_lt (n a b : Nat) (ha : a < 256 ^ n) (hb : b < 256 ^ n) : dg n a < dg n b ↔ a < b := by
  induction n generalizing a b with
  | zero => simp at ha hb; subst ha hb; simp [dg]
  | succ n ih =>
    have ha' : a / 256 < 256 ^ n := by rw [Nat.pow_succ] at ha; omega
    have hb' : b / 256 < 256 ^ n := by rw [Nat.pow_succ] at hb; omega
    have key : ∀ (l m : List Int) (x y : Int), l.length = m.length → (l ++ [x] < m ++ [y] ↔ l < m ∨ (l = m ∧ x < y)) := by
      intro l
      induction l with
      | nil => intro m x y h; cases m with
        | nil => simp [List.cons_lt_cons_iff]
        | cons _ _ => simp at h
      | cons p l ihl =>
        intro m x y h
        cases m with
        | nil => simp at h
        | cons q m =>
          simp only [List.cons_append, List.cons_lt_cons_iff, List.cons.injEq, ihl m x y (by simpa using h)]
          constructor
          · rintro (h1 | ⟨h1, h2 | ⟨h2, h3⟩⟩)
            · exact .inl (.inl h1)
            · exact .inl (.inr ⟨h1, h2⟩)
            · exact .inr ⟨⟨h1, h2⟩, h3⟩
          · rintro ((h1 | ⟨h1, h2⟩) | ⟨⟨h1, h2⟩, h3⟩)
            · exact .inl h1
            · exact .inr ⟨h1, .inl h2⟩
            · exact .inr ⟨h1, .inr ⟨h2, h3⟩⟩
    simp only [dg]
    rw [key _ _ _ _ (by rw [dg_len, dg_len]), ih _ _ ha' hb']
    have hinj : dg n (a / 256) = dg n (b / 256) ↔ a / 256 = b / 256 := ⟨dg_inj n _ _ ha' hb', fun h => by rw [h]⟩
    rw [hinj]
    omega
end Go.Proofs.YtiajgmocmnjijaaDoor.Dig
