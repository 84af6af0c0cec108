namespace Go.Proofs.YtiajgmocmnjijaaDoor.Crc
/-- The polynomial, its bits turned round. -/
def P : Nat := 0x82f63b78
def step (c : Nat) : Nat := if c % 2 = 1 then (c / 2) ^^^ P else c / 2
def iter : Nat → Nat → Nat
  | 0, c => c
  | n + 1, c => iter n (step c)

theorem xor_div2 (a b : Nat) : (a ^^^ b) / 2 = a / 2 ^^^ b / 2 := by
  apply Nat.eq_of_testBit_eq; intro i
  simp [Nat.testBit_xor, ← Nat.testBit_succ]
theorem xor_mod2 (a b : Nat) : (a ^^^ b) % 2 = (a % 2 + b % 2) % 2 := by
  have h := Nat.testBit_xor a b 0
  simp only [Nat.testBit_zero] at h
  have ha := Nat.mod_two_eq_zero_or_one a
  have hb := Nat.mod_two_eq_zero_or_one b
  have hc := Nat.mod_two_eq_zero_or_one (a ^^^ b)
  rcases ha with ha | ha <;> rcases hb with hb | hb <;> rcases hc with hc | hc <;> simp_all

theorem step_xor (a b : Nat) : step (a ^^^ b) = step a ^^^ step b := by
  unfold step
  rw [xor_div2, xor_mod2]
  have ha := Nat.mod_two_eq_zero_or_one a
  have hb := Nat.mod_two_eq_zero_or_one b
  rcases ha with ha | ha <;> rcases hb with hb | hb <;> simp only [ha, hb] <;> simp
  · rw [Nat.xor_assoc]
  · rw [Nat.xor_assoc, Nat.xor_comm _ P, ← Nat.xor_assoc, Nat.xor_assoc]
  · rw [Nat.xor_assoc, ← Nat.xor_assoc P, Nat.xor_comm P (b / 2), Nat.xor_assoc, Nat.xor_self, Nat.xor_zero]

theorem iter_xor (n : Nat) (a b : Nat) : iter n (a ^^^ b) = iter n a ^^^ iter n b := by
  induction n generalizing a b with
  | zero => rfl
  | succ n ih => simp only [iter, step_xor, ih]

theorem step_zero : step 0 = 0 := by decide
theorem iter_zero (n : Nat) : iter n 0 = 0 := by
  induction n with
  | zero => rfl
  | succ n ih => simp only [iter, step_zero, ih]

theorem iter_add (m n : Nat) (c : Nat) : iter (m + n) c = iter n (iter m c) := by
  induction m generalizing c with
  | zero => simp [iter]
  | succ m ih => rw [Nat.succ_add]; simp only [iter, ih]

theorem step_lt (c : Nat) (h : c < 2 ^ 32) : step c < 2 ^ 32 := by
  unfold step
  have h1 : c / 2 < 2 ^ 32 := by omega
  split
  · exact Nat.xor_lt_two_pow h1 (by decide)
  · exact h1
theorem iter_lt (n : Nat) (c : Nat) (h : c < 2 ^ 32) : iter n c < 2 ^ 32 := by
  induction n generalizing c with
  | zero => exact h
  | succ n ih => exact ih _ (step_lt c h)

theorem xor_eq_zero {a b : Nat} (h : a ^^^ b = 0) : a = b := by
  have := congrArg (· ^^^ b) h
  simpa [Nat.xor_assoc] using this

theorem step_inj0 (c : Nat) (hc : c < 2 ^ 32) (h : step c = 0) : c = 0 := by
  unfold step at h
  split at h
  · exfalso
    have h1 := xor_eq_zero h
    have h4 : P = 2197175160 := rfl
    omega
  · omega

theorem iter_inj0 (n : Nat) (c : Nat) (hc : c < 2 ^ 32) (h : iter n c = 0) : c = 0 := by
  induction n generalizing c with
  | zero => exact h
  | succ n ih => exact step_inj0 c hc (ih _ (step_lt c hc) h)

theorem iter_shift (n x : Nat) : iter n (2 ^ n * x) = x := by
  induction n with
  | zero => simp [iter]
  | succ n ih =>
    have h0 : step (2 ^ (n + 1) * x) = 2 ^ n * x := by
      unfold step
      have : 2 ^ (n + 1) * x = 2 * (2 ^ n * x) := by rw [Nat.pow_succ, Nat.mul_comm (2 ^ n) 2, Nat.mul_assoc]
      rw [this, if_neg (by omega)]; omega
    simp only [iter, h0, ih]

theorem add_eq_xor (n x r : Nat) (h : r < 2 ^ n) : 2 ^ n * x + r = (2 ^ n * x) ^^^ r := by
  apply Nat.eq_of_testBit_eq; intro i
  rw [Nat.testBit_two_pow_mul_add x h, Nat.testBit_xor, Nat.testBit_two_pow_mul]
  by_cases hi : i < n
  · simp [hi, Nat.not_le.2 hi]
  · have : r.testBit i = false := Nat.testBit_lt_two_pow (Nat.lt_of_lt_of_le h (Nat.pow_le_pow_right (by decide) (by omega)))
    simp [hi, this, Nat.not_lt.1 hi]

def tab : List Nat := [0, 274646895, 549293790, 820201905, 1098587580, 1361435347, 1640403810, 1905808397, 2197175160, 2460548119, 2722870694, 2987750089, 3280807620, 3553878443, 3811616794, 4084100981]
theorem tab_eq : ∀ k, k < 16 → tab.getD k 0 = iter 4 k := by decide

theorem nib_eq (c : Nat) : (c / 16) ^^^ tab.getD (c % 16) 0 = iter 4 c := by
  have h := add_eq_xor 4 (c / 16) (c % 16) (by have : (2:Nat) ^ 4 = 16 := rfl; omega)
  have h2 : 2 ^ 4 * (c / 16) + c % 16 = c := by have : (2:Nat) ^ 4 = 16 := rfl; omega
  rw [h2] at h
  conv => rhs; rw [h, iter_xor, iter_shift]
  rw [tab_eq _ (by omega)]

/-! Texts -/
def feed (c : Nat) (b : UInt8) : Nat := iter 8 (c ^^^ b.toNat)
def run (c : Nat) (l : List UInt8) : Nat := l.foldl feed c
def inv (c : Nat) : Nat := c ^^^ 4294967295
def crc (c : Nat) (l : List UInt8) : Nat := inv (run (inv c) l)

theorem inv_inv (c : Nat) : inv (inv c) = c := by unfold inv; rw [Nat.xor_assoc, Nat.xor_self, Nat.xor_zero]
theorem inv_lt (c : Nat) (h : c < 2 ^ 32) : inv c < 2 ^ 32 := Nat.xor_lt_two_pow h (by decide)
theorem feed_lt (c : Nat) (b : UInt8) (h : c < 2 ^ 32) : feed c b < 2 ^ 32 :=
  iter_lt _ _ (Nat.xor_lt_two_pow h (Nat.lt_of_lt_of_le b.toNat_lt (by decide)))
theorem run_lt (l : List UInt8) : ∀ c, c < 2 ^ 32 → run c l < 2 ^ 32 := by
  induction l with
  | nil => intro c h; exact h
  | cons b l ih => intro c h; exact ih _ (feed_lt c b h)
theorem crc_lt (c : Nat) (l : List UInt8) (h : c < 2 ^ 32) : crc c l < 2 ^ 32 := inv_lt _ (run_lt _ _ (inv_lt _ h))

theorem run_append (c : Nat) (l m : List UInt8) : run c (l ++ m) = run (run c l) m := by simp [run]
def leNum : List UInt8 → Nat
  | [] => 0
  | b :: l => b.toNat + 256 * leNum l

theorem run_eq (l : List UInt8) : ∀ c, run c l = iter (8 * l.length) (c ^^^ leNum l) := by
  induction l with
  | nil => intro c; simp [run, iter, leNum]
  | cons b l ih =>
    intro c
    show run (feed c b) l = _
    rw [ih, leNum, List.length_cons, Nat.mul_add, Nat.add_comm (8 * l.length), Nat.mul_one, iter_add]
    congr 1
    have hb : b.toNat < 2 ^ 8 := b.toNat_lt
    rw [Nat.add_comm, show 256 = 2 ^ 8 from rfl, add_eq_xor 8 _ _ hb, Nat.xor_comm (2 ^ 8 * _), ← Nat.xor_assoc, iter_xor, iter_shift]
    rfl

/-- Two texts of one length whose bits differ in up to 32 in a row have unlike sums. -/
theorem run_burst (c k d : Nat) (l m : List UInt8) (hl : l.length = m.length) (hk : k ≤ 8 * l.length) (hd : d < 2 ^ 32) (h : leNum m = leNum l ^^^ (2 ^ k * d)) : run c m = run c l ↔ d = 0 := by
  rw [run_eq, run_eq, ← hl, h, ← Nat.xor_assoc, iter_xor]
  constructor
  · intro e
    have e2 : iter (8 * l.length) (2 ^ k * d) = 0 := by
      have := congrArg (iter (8 * l.length) (c ^^^ leNum l) ^^^ ·) e
      simpa [← Nat.xor_assoc] using this
    rw [show 8 * l.length = k + (8 * l.length - k) from by omega, iter_add, iter_shift] at e2
    exact iter_inj0 _ _ hd e2
  · rintro rfl; simp [iter_zero]

theorem crc_burst (c k d : Nat) (l m : List UInt8) (hl : l.length = m.length) (hk : k ≤ 8 * l.length) (hd : d < 2 ^ 32) (h : leNum m = leNum l ^^^ (2 ^ k * d)) : crc c m = crc c l ↔ d = 0 := by
  unfold crc
  rw [← run_burst (inv c) k d l m hl hk hd h]
  constructor
  · intro e; have := congrArg inv e; simpa [inv_inv] using this
  · intro e; rw [e]
theorem mul_xor (n a b : Nat) : 2 ^ n * (a ^^^ b) = (2 ^ n * a) ^^^ (2 ^ n * b) := by
  apply Nat.eq_of_testBit_eq; intro i
  simp only [Nat.testBit_xor, Nat.testBit_two_pow_mul]
  by_cases h : n ≤ i <;> simp [h]
theorem leNum_cons (b : UInt8) (l : List UInt8) : leNum (b :: l) = (2 ^ 8 * leNum l) ^^^ b.toNat := by
  show b.toNat + 256 * leNum l = _
  rw [Nat.add_comm, show 256 = 2 ^ 8 from rfl, add_eq_xor 8 _ _ b.toNat_lt]
end Go.Proofs.YtiajgmocmnjijaaDoor.Crc
