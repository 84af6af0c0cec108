/-
  The reference's constants: its primes, square roots and cube roots, in plain numbers, evaluated.
-/
import Derived.Test.YtbphehijikdkjaaDoorPDgsx
import Derived.Test.YtbphehijikdkjaaDoorDgsP
namespace Go.Proofs.YtbphehijikdkjaaDoor.DgsC
open Go.RowKit Go.Proofs.YtbphehijikdkjaaDoorW.PrintWords Go.Proofs.YtbphehijikdkjaaDoorW.PrintLast Go.Proofs.YtbphehijikdkjaaDoorW.PrintMore Go.Proofs.YtbphehijikdkjaaDoor.Str Go.Proofs.YtbphehijikdkjaaDoor.DgsP Go.Proofs.YtbphehijikdkjaaDoor.PDgs
set_option linter.unusedVariables false
/-- A number is reckoned out before it is used. -/
def force {α : Type} (n : Nat) (f : Nat → α) : α := Nat.rec (f 0) (fun k _ => f (k + 1)) n
theorem force_eq {α : Type} (n : Nat) (f : Nat → α) : force n f = f n := by cases n <;> rfl
def Q : Nat := 18446744073709551616
theorem Q_eq : Q = 18446744073709551616 := rfl
theorem wN (x : Nat) : IntKind.u64.wrap (x : Int) = ((x % Q : Nat) : Int) := by rw [IntKind.wrap_u64, Q_eq]; omega
theorem divN (x : Nat) : (x : Int) / 4294967296 = ((x / 4294967296 : Nat) : Int) := by omega
theorem mulN (x : Nat) : (x : Int) * 4294967296 = ((x * 4294967296 : Nat) : Int) := by omega
theorem toInt64 (x : Nat) : BitVec.ofInt 64 (x : Int) = BitVec.ofNat 64 x := BitVec.ofInt_natCast _ _
theorem andN (x : Nat) : bits .and .u64 (x : Int) 4294967295 = ((x % 4294967296 : Nat) : Int) := by
  have h1 : bits .and .u64 (x : Int) 4294967295 = IntKind.u64.wrap ((BitVec.ofNat 64 x &&& BitVec.ofNat 64 4294967295 : BitVec 64).toNat : Int) := by
    rw [← toInt64 x, ← toInt64 4294967295]; rfl
  rw [h1, BitVec.toNat_and, BitVec.toNat_ofNat, BitVec.toNat_ofNat, show 4294967295 % 2 ^ 64 = 2 ^ 32 - 1 from rfl, Nat.and_two_pow_sub_one_eq_mod, IntKind.wrap_u64]
  omega
theorem orN (x y : Nat) : bits .or .u64 (x : Int) (y : Int) = ((x % Q ||| y % Q : Nat) : Int) := by
  have h1 : bits .or .u64 (x : Int) (y : Int) = IntKind.u64.wrap ((BitVec.ofNat 64 x ||| BitVec.ofNat 64 y : BitVec 64).toNat : Int) := by
    rw [← toInt64 x, ← toInt64 y]; rfl
  have hx : (x % 2 ^ 64) ||| (y % 2 ^ 64) < 2 ^ 64 := Nat.or_lt_two_pow (Nat.mod_lt _ (by decide)) (Nat.mod_lt _ (by decide))
  rw [h1, BitVec.toNat_or, BitVec.toNat_ofNat, BitVec.toNat_ofNat, wN, Q_eq]
  exact congrArg _ (Nat.mod_eq_of_lt hx)
theorem shlN (i : Nat) (hi : i < 64) : shl .u64 1 (i : Int) = ((2 ^ i % Q : Nat) : Int) := by
  unfold shl
  rw [Int.toNat_natCast, show IntKind.u64.bits = 64 from rfl, Nat.min_eq_left (by omega), ← wN]
  simp
/-- Two numbers multiplied, as the reference does. -/
def timesF {α : Type} (a b : Nat) (K : Nat → Nat → α) : α :=
  force (a % 4294967296) fun al => force (a / 4294967296) fun ah => force (b % 4294967296) fun bl => force (b / 4294967296) fun bh =>
  force (al * bl % Q) fun ll => force (al * bh % Q) fun lh => force (ah * bl % Q) fun hl => force (ah * bh % Q) fun hh =>
  force (((ll / 4294967296 + lh % 4294967296) % Q + hl % 4294967296) % Q) fun mid =>
  force ((((hh + lh / 4294967296) % Q + hl / 4294967296) % Q + mid / 4294967296) % Q) fun r1 => force ((ll % 4294967296 % Q) ||| (mid * 4294967296 % Q % Q)) fun r2 => K r1 r2
def timesP (a b : Nat) : Nat × Nat := timesF a b Prod.mk
theorem timesF_pair {α : Type} (a b : Nat) (K : Nat → Nat → α) : timesF a b K = K (timesP a b).1 (timesP a b).2 := by
  simp only [timesP, timesF, force_eq]
theorem times_eq (a b : Nat) : umbelref04_times.f (a : Int) (b : Int) = some (((timesP a b).1 : Int), ((timesP a b).2 : Int)) := by
  unfold umbelref04_times.f timesP
  simp only [divN, andN, ← Int.natCast_mul, wN, ← Int.natCast_add, mulN, orN, timesF, force_eq]
/-- The square root's next bits. -/
def sqN (v : Nat) : Nat → Nat → Nat
  | 0, r => r % 4294967296
  | i + 1, r => force ((r % Q) ||| (2 ^ i % Q % Q)) fun x => timesF x x fun h l => if h < v then sqN v i x else if h = v then (if l = 0 then sqN v i x else sqN v i r) else sqN v i r
theorem ite_some {α : Type} (c : Prop) [Decidable c] (a b : α) : (if c then some a else some b) = some (if c then a else b) := by split <;> rfl
theorem ite_cast (c : Prop) [Decidable c] (a b : Nat) : (if c then (a : Int) else (b : Int)) = ((if c then a else b : Nat) : Int) := by split <;> rfl
theorem lt_cast (a b : Nat) : ((a : Int) < (b : Int)) = (a < b) := by simp
theorem eq_cast (a b : Nat) : ((a : Int) = (b : Int)) = (a = b) := by simp only [Int.natCast_inj]
theorem eq_zero (a : Nat) : ((a : Int) = 0) = (a = 0) := by simp
theorem sq_eq (v : Nat) : ∀ (i r : Nat), i ≤ 60 → umbelref04_square.l0 (i + 1) (v : Int) (r : Int) ((i : Int) - 1) = some ((sqN v i r : Nat) : Int)
  | 0, r, _ => by rw [umbelref04_square.l0, if_neg (by omega), sqN]; congr 1
  | i + 1, r, hi => by
    have w1 : IntKind.u64.wrap (((i + 1 : Nat) : Int) - 1) = (i : Int) := by rw [show (((i + 1 : Nat) : Int) - 1) = (i : Int) by omega, wN, Q_eq, Nat.mod_eq_of_lt (by omega)]
    have w2 : wrap64 (((i + 1 : Nat) : Int) - 1 - 1) = (i : Int) - 1 := by unfold wrap64; omega
    have ih1 := fun r => sq_eq v i r (by omega)
    rw [umbelref04_square.l0, w1, w2, if_pos (by omega), if_pos (by omega), shlN i (by omega), orN, times_eq, Option.bind_some]
    simp only [ih1, lt_cast, eq_cast, eq_zero, ite_some, ite_cast]
    rw [sqN, force_eq, timesF_pair]
theorem square_eq (v : Nat) : umbelref04_square.f 38 (v : Int) = some ((sqN v 37 0 : Nat) : Int) := sq_eq v 37 0 (by decide)
/-- The cube root's next bits. -/
def cuN (v : Nat) : Nat → Nat → Nat
  | 0, r => r % 4294967296
  | i + 1, r => force ((r % Q) ||| (2 ^ i % Q % Q)) fun x => timesF x x fun h l => timesF l x fun lh ll => timesF h x fun _ hl => force ((lh + hl) % Q) fun top => force (v * 4294967296 % Q) fun limit => if top < limit then cuN v i x else if top = limit then (if ll = 0 then cuN v i x else cuN v i r) else cuN v i r
theorem cu_eq (v : Nat) : ∀ (i r : Nat), i ≤ 60 → umbelref04_cube.l0 (i + 1) (v : Int) (r : Int) ((i : Int) - 1) = some ((cuN v i r : Nat) : Int)
  | 0, r, _ => by rw [umbelref04_cube.l0, if_neg (by omega), cuN]; congr 1
  | i + 1, r, hi => by
    have w1 : IntKind.u64.wrap (((i + 1 : Nat) : Int) - 1) = (i : Int) := by rw [show (((i + 1 : Nat) : Int) - 1) = (i : Int) by omega, wN, Q_eq, Nat.mod_eq_of_lt (by omega)]
    have w2 : wrap64 (((i + 1 : Nat) : Int) - 1 - 1) = (i : Int) - 1 := by unfold wrap64; omega
    have ih1 := fun r => cu_eq v i r (by omega)
    rw [umbelref04_cube.l0, w1, w2, if_pos (by omega), if_pos (by omega), shlN i (by omega), orN, times_eq, Option.bind_some]
    simp only [times_eq, Option.bind_some, mulN, wN, ← Int.natCast_add, ih1, lt_cast, eq_cast, eq_zero, ite_some, ite_cast]
    rw [cuN, force_eq, timesF_pair, timesF_pair, timesF_pair, force_eq, force_eq]
theorem cube_eq (v : Nat) : umbelref04_cube.f 37 (v : Int) = some ((cuN v 36 0 : Nat) : Int) := cu_eq v 36 0 (by decide)
/-- The first primes. -/
def PR : List Nat := [2, 3, 5, 7, 11, 13, 17, 19, 23, 29, 31, 37, 41, 43, 47, 53, 59, 61, 67, 71, 73, 79, 83, 89, 97, 101, 103, 107, 109, 113, 127, 131, 137, 139, 149, 151, 157, 163, 167, 173, 179, 181, 191, 193, 197, 199, 211, 223, 227, 229, 233, 239, 241, 251, 257, 263, 269, 271, 277, 281, 283, 293, 307, 311]
def below (v : Nat) : List Nat := PR.filter (· < v)
/-- Numbers as the program's. -/
def ns (l : List Nat) : List Int := l.map fun (x : Nat) => (x : Int)
theorem ns_len (l : List Nat) : (ns l).length = l.length := by simp [ns]
theorem rd_ns (l : List Nat) (j : Nat) (h : j < l.length) : rd (ns l) (j : Int) = ((l.getD j 0 : Nat) : Int) := by simp [rd, ns, List.getD_eq_getElem?_getD, h]
theorem primes_in (n : Int) (v : Nat) (l : List Nat) (hv : v < 1000) (hl : l.length ≤ 100) (hpos : ∀ x ∈ l, 0 < x) (r : List Int)
    (hy : (∀ x ∈ l, v % x ≠ 0) → ∃ k, umbelref04_primes.l0 k n (ns (l ++ [v])) ((v + 1 : Nat) : Int) = some r)
    (hn : (∃ x ∈ l, v % x = 0) → ∃ k, umbelref04_primes.l0 k n (ns l) ((v + 1 : Nat) : Int) = some r) :
    ∀ m j : Nat, m + j = l.length → (∀ i, i < j → v % l.getD i 0 ≠ 0) → ∃ k, umbelref04_primes.l1 k n (ns l) (v : Int) true (j : Int) = some r := by
  have wv : IntKind.u64.wrap ((v : Int) + 1) = ((v + 1 : Nat) : Int) := by rw [show ((v : Int) + 1) = ((v + 1 : Nat) : Int) by omega, wN, Q_eq, Nat.mod_eq_of_lt (by omega)]
  have hnL : (ns l).length = l.length := ns_len l
  intro m
  induction m with
  | zero =>
    intro j hj hp
    obtain ⟨k, hk⟩ := hy (fun x hx => by
      obtain ⟨i, hi, rfl⟩ := List.getElem_of_mem hx
      have := hp i (by omega)
      rwa [List.getD_eq_getElem?_getD, List.getElem?_eq_getElem hi, Option.getD_some] at this)
    refine ⟨k + 1, ?_⟩
    rw [umbelref04_primes.l1, if_neg (by omega), if_pos rfl, if_pos (by omega), wv]
    rw [show ns l ++ [(v : Int)] = ns (l ++ [v]) by simp [ns]]
    exact hk
  | succ m ih =>
    intro j hj hp
    have hjl : j < l.length := by omega
    have hmem : l.getD j 0 ∈ l := by rw [List.getD_eq_getElem?_getD, List.getElem?_eq_getElem hjl, Option.getD_some]; exact List.getElem_mem hjl
    have h0 := hpos _ hmem
    have wj : wrap64 ((j : Int) + 1) = ((j + 1 : Nat) : Int) := wr (by omega) (by omega)
    have hm : Int.tmod (v : Int) ((l.getD j 0 : Nat) : Int) = ((v % l.getD j 0 : Nat) : Int) := by rw [Int.tmod_eq_emod_of_nonneg (by omega)]; omega
    by_cases hd : v % l.getD j 0 = 0
    · obtain ⟨k, hk⟩ := hn ⟨_, hmem, hd⟩
      refine ⟨k + 2, ?_⟩
      rw [umbelref04_primes.l1, if_pos (by omega), if_pos rfl, if_pos (by omega), rd_ns l j hjl, if_neg (by omega), hm, hd, wj]
      rw [show (((0 : Nat) : Int) != 0) = false from rfl, umbelref04_primes.l1]
      by_cases hlt : ((j + 1 : Nat) : Int) < ((ns l).length : Int)
      · rw [if_pos hlt, if_neg (by decide), wv]; exact hk
      · rw [if_neg hlt, if_neg (by decide), wv]; exact hk
    · obtain ⟨k, hk⟩ := ih (j + 1) (by omega) (fun i hi => by
        by_cases e : i = j
        · rw [e]; exact hd
        · exact hp i (by omega))
      refine ⟨k + 1, ?_⟩
      rw [umbelref04_primes.l1, if_pos (by omega), if_pos rfl, if_pos (by omega), rd_ns l j hjl, if_neg (by omega), hm, wj]
      rw [show (((v % l.getD j 0 : Nat) : Int) != 0) = true from bne_iff_ne.2 (fun h => hd (Int.natCast_inj.1 (h : ((v % l.getD j 0 : Nat) : Int) = ((0 : Nat) : Int))))]
      exact hk
theorem pr_next : ∀ v : Fin 312, 2 ≤ v.val → below (v.val + 1) = (if (below v.val).all (fun x => v.val % x != 0) then below v.val ++ [v.val] else below v.val) := by decide +kernel
theorem pr_pos : ∀ x ∈ PR, 0 < x := by decide +kernel
theorem below_mem (v : Nat) : ∀ x ∈ below v, 0 < x := fun x h => pr_pos x (List.mem_filter.1 h).1
theorem below_len (v : Nat) : (below v).length ≤ 100 := Nat.le_trans (List.length_filter_le _ _) (by decide)
theorem primes_up (n top : Nat) (hn : (below top).length = n) (ht : top ≤ 312) (hlt : ∀ v : Fin 312, v.val < top → (below v.val).length < n) :
    ∀ m v : Nat, m + v = top → 2 ≤ v → ∃ k, umbelref04_primes.l0 k (n : Int) (ns (below v)) (v : Int) = some (ns (below top)) := by
  intro m
  induction m with
  | zero =>
    intro v hv _
    obtain rfl : v = top := by omega
    exact ⟨1, by rw [umbelref04_primes.l0, ns_len, if_neg (by omega)]⟩
  | succ m ih =>
    intro v hv h2
    have hl := hlt ⟨v, by omega⟩ (by show v < top; omega)
    have hx := pr_next ⟨v, by omega⟩ h2
    simp only at hl hx
    obtain ⟨k, hk⟩ := ih (v + 1) (by omega) (by omega)
    obtain ⟨k', hk'⟩ := primes_in (n : Int) v (below v) (by omega) (below_len v) (below_mem v) (ns (below top))
      (fun h => ⟨k, by rw [hx, if_pos (by rw [List.all_eq_true]; intro x hx'; simpa using h x hx')] at hk; exact hk⟩)
      (fun ⟨x, hm, h⟩ => ⟨k, by rw [hx, if_neg (by intro hc; rw [List.all_eq_true] at hc; have := hc x hm; simp [h] at this)] at hk; exact hk⟩)
      (below v).length 0 (by omega) (fun i hi => by omega)
    exact ⟨k' + 1, by rw [umbelref04_primes.l0, ns_len, if_pos (by omega)]; exact hk'⟩
theorem primes_64 : ∃ k, umbelref04_primes.f k 64 = some (ns PR) := by
  obtain ⟨k, hk⟩ := primes_up 64 312 (by decide +kernel) (by decide) (by decide +kernel) 310 2 rfl (by decide)
  exact ⟨k, by rw [show below 312 = PR by decide +kernel] at hk; exact hk⟩
theorem primes_8 : ∃ k, umbelref04_primes.f k 8 = some (ns (PR.take 8)) := by
  obtain ⟨k, hk⟩ := primes_up 8 20 (by decide +kernel) (by decide) (by decide +kernel) 18 2 rfl (by decide)
  exact ⟨k, by rw [show below 20 = PR.take 8 by decide +kernel] at hk; exact hk⟩
end Go.Proofs.YtbphehijikdkjaaDoor.DgsC
