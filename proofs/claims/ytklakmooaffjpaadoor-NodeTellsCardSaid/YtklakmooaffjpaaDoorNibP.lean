/-
  What the functions of package nibble and of its reference come to, in plain lists.
-/
import Derived.Test.YtklakmooaffjpaaDoorPNodx4
import Derived.Test.YtklakmooaffjpaaDoorPNodx11
import Derived.Test.YtklakmooaffjpaaDoorCalm
namespace Go.Proofs.YtklakmooaffjpaaDoor.NibP
open Go.RowKit Go.Proofs.YtklakmooaffjpaaDoorW.PrintWords Go.Proofs.YtklakmooaffjpaaDoor.PNod Go.Proofs.YtklakmooaffjpaaDoor.PNor
set_option linter.unusedVariables false

theorem wr {x : Int} (h0 : 0 ≤ x) (h1 : x < 4611686018427387904) : wrap64 x = x := by unfold wrap64; omega
theorem bt_rd (s : ByteArray) (i : Int) : bt s i = rd (bytesOf s) i := by
  unfold bt rd bytesOf
  split
  · rename_i h
    simp [List.getD, h]
    rfl
  · rename_i h
    simp [List.getD, h]
theorem len_bytesOf (s : ByteArray) : (bytesOf s).length = s.size := by simp [bytesOf]
theorem drop_bytes (s : ByteArray) (j : Nat) (h : j < s.size) : (bytesOf s).drop j = bt s j :: (bytesOf s).drop (j + 1) := by
  rw [List.drop_eq_getElem_cons (by rw [len_bytesOf]; exact h), bt_rd]
  congr 1
  simp [rd, List.getD, len_bytesOf, h]
theorem drop_end (s : ByteArray) (j : Nat) (h : s.size ≤ j) : (bytesOf s).drop j = [] := List.drop_eq_nil_of_le (by rw [len_bytesOf]; exact h)

/-- Each byte's halves. -/
def nibL (l : List Int) : List Int := l.flatMap fun b => [b / 16, b % 16]
theorem nibL_cons (b : Int) (l : List Int) : nibL (b :: l) = [b / 16, b % 16] ++ nibL l := rfl
theorem nibL_length (l : List Int) : (nibL l).length = 2 * l.length := by
  induction l with
  | nil => rfl
  | cons b l ih => rw [nibL_cons, List.length_append, ih]; simp; omega

theorem of_loop (s : ByteArray) (hs : s.size ≤ 1000000) (d : Nat) : ∀ (k j : Nat) (acc : List Int), j + d = s.size → d < k → acc.length ≤ 2 * j →
    nibble_Of.l0 k s acc (s.size : Int) j = some (strOfNums (acc ++ nibL ((bytesOf s).drop j))) := by
  induction d with
  | zero =>
    intro k j acc hj hk ha
    obtain ⟨k, rfl⟩ : ∃ m, k = m + 1 := ⟨k - 1, by omega⟩
    simp only [nibble_Of.l0]
    rw [if_neg (by omega), drop_end s j (by omega)]
    simp [nibL]
  | succ d ih =>
    intro k j acc hj hk ha
    obtain ⟨k, rfl⟩ : ∃ m, k = m + 1 := ⟨k - 1, by omega⟩
    have hb := bt_range s j
    simp only [nibble_Of.l0]
    rw [if_pos (by omega), if_pos (by omega), if_pos (by omega)]
    simp only [Option.bind_some]
    rw [if_pos (by simp; omega), wr (by omega) (by omega), show ((j : Int) + 1) = ((j + 1 : Nat) : Int) by omega, ih k (j + 1) _ (by omega) (by omega) (by simp; omega), drop_bytes s j (by omega), nibL_cons, u8_and15 _ hb.1 (by omega)]
    simp
theorem of_f (s : ByteArray) (hs : s.size ≤ 1000000) (k : Nat) (hk : s.size < k) : nibble_Of.f k s = some (strOfNums (nibL (bytesOf s))) := by
  unfold nibble_Of.f
  rw [wr (by omega) (by omega), if_pos (by omega), if_pos (by omega)]
  have := of_loop s hs s.size k 0 [] (by omega) hk (by simp)
  simpa using this

theorem ref_of_loop (s : ByteArray) (hs : s.size ≤ 1000000) (d : Nat) : ∀ (k j : Nat) (acc : List Int), j + d = s.size → d < k → acc.length ≤ 2 * j →
    r2Of.l0 k s acc j = some (strOfNums (acc ++ nibL ((bytesOf s).drop j))) := by
  induction d with
  | zero =>
    intro k j acc hj hk ha
    obtain ⟨k, rfl⟩ : ∃ m, k = m + 1 := ⟨k - 1, by omega⟩
    simp only [r2Of.l0]
    rw [if_neg (by omega), drop_end s j (by omega)]
    simp [nibL]
  | succ d ih =>
    intro k j acc hj hk ha
    obtain ⟨k, rfl⟩ : ∃ m, k = m + 1 := ⟨k - 1, by omega⟩
    have hb := bt_range s j
    simp only [r2Of.l0]
    rw [if_pos (by omega), if_pos (by omega)]
    simp only [Option.bind_some]
    rw [if_pos (by simp; omega), wr (by omega) (by omega), show ((j : Int) + 1) = ((j + 1 : Nat) : Int) by omega, ih k (j + 1) _ (by omega) (by omega) (by simp; omega), drop_bytes s j (by omega), nibL_cons]
    rw [show Int.tdiv (bt s j) 16 % 256 = bt s j / 16 by rw [Int.tdiv_eq_ediv_of_nonneg hb.1]; omega, show Int.tmod (bt s j) 16 = bt s j % 16 from Int.tmod_eq_emod_of_nonneg hb.1]
    simp
theorem ref_of_f (s : ByteArray) (hs : s.size ≤ 1000000) (k : Nat) (hk : s.size < k) : r2Of.f k s = some (strOfNums (nibL (bytesOf s))) := by
  have := ref_of_loop s hs s.size k 0 [] (by omega) hk (by simp)
  simpa [r2Of.f] using this

/-- Are all bytes nibbles? -/
def smallL (l : List Int) : Bool := l.all fun b => decide (b ≤ 15)
theorem small_loop (s : ByteArray) (hs : s.size ≤ 1000000) (d : Nat) : ∀ (k j : Nat), j + d = s.size → d < k →
    nibble_small.l0 k s (s.size : Int) j = some (smallL ((bytesOf s).drop j)) := by
  induction d with
  | zero =>
    intro k j hj hk
    obtain ⟨k, rfl⟩ : ∃ m, k = m + 1 := ⟨k - 1, by omega⟩
    simp only [nibble_small.l0]
    rw [if_neg (by omega), drop_end s j (by omega)]; rfl
  | succ d ih =>
    intro k j hj hk
    obtain ⟨k, rfl⟩ : ∃ m, k = m + 1 := ⟨k - 1, by omega⟩
    simp only [nibble_small.l0]
    rw [if_pos (by omega), if_pos (by omega), if_pos (by omega), drop_bytes s j (by omega)]
    by_cases h : bt s j > 15
    · rw [if_pos h]; simp [smallL, Int.not_le.2 h]
    · rw [if_neg h, wr (by omega) (by omega), show ((j : Int) + 1) = ((j + 1 : Nat) : Int) by omega, ih k (j + 1) (by omega) (by omega)]
      simp [smallL, Int.not_lt.1 h]
theorem small_f (s : ByteArray) (hs : s.size ≤ 1000000) (k : Nat) (hk : s.size < k) : nibble_small.f k s = some (smallL (bytesOf s)) := by
  have := small_loop s hs s.size k 0 (by omega) hk
  simpa [nibble_small.f] using this
def goodL (l : List Int) : Bool := decide (l.length ≤ 16) && smallL l
theorem good_f (s : ByteArray) (hs : s.size ≤ 1000000) (k : Nat) (hk : s.size < k) : nibble_Good.f k s = some (goodL (bytesOf s)) := by
  unfold nibble_Good.f
  rw [small_f s hs k hk]
  simp only [goodL, len_bytesOf, Option.bind_some]
  by_cases h : s.size ≤ 16
  · rw [if_pos (by omega)]; simp [h]
  · rw [if_neg (by omega)]; simp [h]
theorem ref_good_loop (s : ByteArray) (hs : s.size ≤ 1000000) (d : Nat) : ∀ (k j : Nat), j + d = s.size → d < k →
    r2Good.l0 k s j = some (smallL ((bytesOf s).drop j) && decide (s.size ≤ 16)) := by
  induction d with
  | zero =>
    intro k j hj hk
    obtain ⟨k, rfl⟩ : ∃ m, k = m + 1 := ⟨k - 1, by omega⟩
    simp only [r2Good.l0]
    rw [if_neg (by omega), drop_end s j (by omega)]
    simp [smallL]; omega
  | succ d ih =>
    intro k j hj hk
    obtain ⟨k, rfl⟩ : ∃ m, k = m + 1 := ⟨k - 1, by omega⟩
    simp only [r2Good.l0]
    rw [if_pos (by omega), if_pos (by omega), drop_bytes s j (by omega)]
    by_cases h : bt s j > 15
    · rw [if_pos h]; simp [smallL, Int.not_le.2 h]
    · rw [if_neg h, wr (by omega) (by omega), show ((j : Int) + 1) = ((j + 1 : Nat) : Int) by omega, ih k (j + 1) (by omega) (by omega)]
      simp [smallL, Int.not_lt.1 h]
theorem ref_good_f (s : ByteArray) (hs : s.size ≤ 1000000) (k : Nat) (hk : s.size < k) : r2Good.f k s = some (goodL (bytesOf s)) := by
  have := ref_good_loop s hs s.size k 0 (by omega) hk
  simp only [r2Good.f, goodL, len_bytesOf]
  rw [Bool.and_comm]
  simpa using this

/-- Two nibbles a byte. -/
def twoL : List Int → List Int
  | [] => []
  | [x] => [x * 16 % 256]
  | x :: y :: l => (x * 16 + y) % 256 :: twoL l
theorem twoL_length (l : List Int) : (twoL l).length = (l.length + 1) / 2 := by
  fun_induction twoL l with
  | case1 => rfl
  | case2 x => simp
  | case3 x y l ih => simp [ih]; omega
theorem twoL_append (a b : List Int) (h : a.length % 2 = 0) : twoL (a ++ b) = twoL a ++ twoL b := by
  fun_induction twoL a with
  | case1 => rfl
  | case2 x => simp at h
  | case3 x y l ih => simp only [List.cons_append, twoL]; rw [ih (by simp at h; omega)]
theorem small_at (l : List Int) (h : smallL l = true) (j : Nat) : rd l j ≤ 15 := by
  unfold rd
  simp only [Int.toNat_natCast, List.getD]
  by_cases hj : j < l.length
  · rw [List.getElem?_eq_getElem hj]
    have := List.all_eq_true.1 h l[j] (List.getElem_mem hj)
    simpa using this
  · rw [List.getElem?_eq_none (by omega)]; simp
theorem take_bytes (s : ByteArray) (j : Nat) (h : j < s.size) : (bytesOf s).take (j + 1) = (bytesOf s).take j ++ [bt s j] := by
  rw [List.take_succ_eq_append_getElem (by rw [len_bytesOf]; exact h), bt_rd]
  congr 2
  simp [rd, List.getD, len_bytesOf, h]
theorem or_zero (y : Int) (h0 : 0 ≤ y) (h1 : y < 256) : Go.bits .or .u8 0 y = y := by
  have := bits_join .u8 8 (by decide) wraps_u8 8 0 y (by decide) (by decide) (by decide) h0 (by omega) (by omega)
  simpa using this
theorem or_low (x y : Int) (hx0 : 0 ≤ x) (hx : x % 16 = 0) (hx1 : x < 256) (h0 : 0 ≤ y) (h1 : y < 16) : Go.bits .or .u8 x y = x + y :=
  bits_join .u8 8 (by decide) wraps_u8 4 x y hx0 hx (by omega) h0 (by omega) (by omega)
theorem shl4 (x : Int) : shl .u8 x 4 = x * 16 % 256 := by
  unfold shl
  rw [IntKind.wrap_u8, show (2 : Int) ^ min (4 : Int).toNat IntKind.u8.bits = 16 by decide]
theorem shl0 (x : Int) (h0 : 0 ≤ x) (h1 : x < 256) : shl .u8 x 0 = x := by
  unfold shl
  rw [IntKind.wrap_u8, show (2 : Int) ^ min (0 : Int).toNat IntKind.u8.bits = 1 by decide]
  omega
theorem mod2_0 {j : Nat} (h : j % 2 = 0) : (j : Int) % 2 = 0 := by omega
theorem mod2_1 {j : Nat} (h : j % 2 = 1) : (j : Int) % 2 = 1 := by omega
theorem rd40 : rd [4, 0] 0 = 4 := by simp [rd]
theorem rd41 : rd [4, 0] 1 = 0 := by simp [rd]
theorem set_app {α : Type} (a b : List α) (x y : α) : (a ++ x :: b).set a.length y = a ++ y :: b := by
  induction a with
  | nil => rfl
  | cons z a ih => simp
theorem rd_app (a b : List Int) (x : Int) (j : Int) (h : j.toNat = a.length) : rd (a ++ x :: b) j = x := by
  unfold rd; rw [h]; simp [List.getD]
theorem two_loop (s : ByteArray) (hs : s.size ≤ 1000000) (hsm : smallL (bytesOf s) = true) (d : Nat) : ∀ (k j : Nat), j + d = s.size → d < k →
    nibble_two.l0 k s (twoL ((bytesOf s).take j) ++ List.replicate ((s.size + 1) / 2 - (j + 1) / 2) 0) (s.size : Int) j = some (strOfNums (twoL (bytesOf s))) := by
  induction d with
  | zero =>
    intro k j hj hk
    obtain ⟨k, rfl⟩ : ∃ m, k = m + 1 := ⟨k - 1, by omega⟩
    simp only [nibble_two.l0]
    rw [if_neg (by omega), List.take_of_length_le (by rw [len_bytesOf]; omega), show (s.size + 1) / 2 - (j + 1) / 2 = 0 by omega]
    simp
  | succ d ih =>
    intro k j hj hk
    obtain ⟨k, rfl⟩ : ∃ m, k = m + 1 := ⟨k - 1, by omega⟩
    have hb := bt_range s j
    have hb15 : bt s j ≤ 15 := by rw [bt_rd]; exact small_at _ hsm j
    have hll : ((twoL ((bytesOf s).take j) ++ List.replicate ((s.size + 1) / 2 - (j + 1) / 2) 0 : List Int)).length = (s.size + 1) / 2 := by
      rw [List.length_append, twoL_length, List.length_take, len_bytesOf, List.length_replicate, Nat.min_eq_left (by omega)]; omega
    have e1 : Int.tmod (j : Int) 2 = (j : Int) % 2 := Int.tmod_eq_emod_of_nonneg (by omega)
    have e2 : wrap64 (Int.tdiv (j : Int) 2) = ((j / 2 : Nat) : Int) := by rw [Int.tdiv_eq_ediv_of_nonneg (by omega), wr (by omega) (by omega)]; omega
    simp only [nibble_two.l0]
    rw [e1, e2, hll]
    rw [if_pos (by omega), if_pos (by omega), if_pos (by omega), if_pos (by omega), if_pos (by omega), if_pos (by omega), if_pos (by omega)]
    have hj1 : wrap64 ((j : Int) + 1) = ((j + 1 : Nat) : Int) := by rw [wr (by omega) (by omega)]; omega
    rw [hj1, Int.toNat_natCast]
    clear hll e1 e2 hj1
    have ht := take_bytes s j (by omega)
    rcases Nat.mod_two_eq_zero_or_one j with hj2 | hj2
    · have er : rd [4, 0] ((j : Int) % 2) = 4 := by rw [mod2_0 hj2, rd40]
      rw [er, if_pos (by decide)]
      have hrep : List.replicate ((s.size + 1) / 2 - (j + 1) / 2) (0 : Int) = 0 :: List.replicate ((s.size + 1) / 2 - (j + 1 + 1) / 2) 0 := by
        rw [← List.replicate_succ]; congr 1; omega
      have hlen : (twoL ((bytesOf s).take j)).length = j / 2 := by rw [twoL_length, List.length_take, len_bytesOf, Nat.min_eq_left (by omega)]; omega
      rw [hrep, rd_app _ _ _ _ (by rw [hlen]; omega)]
      have hsh : shl .u8 (bt s j) 4 = bt s j * 16 % 256 := shl4 _
      rw [hsh, or_zero _ (by omega) (by omega)]
      rw [show j / 2 = (twoL ((bytesOf s).take j)).length from hlen.symm, set_app]
      have := ih k (j + 1) (by omega) (by omega)
      rw [ht, twoL_append _ _ (by rw [List.length_take, len_bytesOf, Nat.min_eq_left (by omega)]; exact hj2)] at this
      simpa [twoL] using this
    · have er : rd [4, 0] ((j : Int) % 2) = 0 := by rw [mod2_1 hj2, rd41]
      rw [er, if_pos (by decide)]
      obtain ⟨i, rfl⟩ : ∃ i, j = i + 1 := ⟨j - 1, by omega⟩
      have hti := take_bytes s i (by omega)
      have hc := bt_range s i
      have hc15 : bt s i ≤ 15 := by rw [bt_rd]; exact small_at _ hsm i
      have hev : ((bytesOf s).take i).length % 2 = 0 := by rw [List.length_take, len_bytesOf, Nat.min_eq_left (by omega)]; omega
      have hlen : (twoL ((bytesOf s).take i)).length = (i + 1) / 2 := by rw [twoL_length, List.length_take, len_bytesOf, Nat.min_eq_left (by omega)]
      have e3 : twoL ((bytesOf s).take (i + 1)) = twoL ((bytesOf s).take i) ++ [bt s i * 16 % 256] := by rw [hti, twoL_append _ _ hev]; rfl
      rw [e3, List.append_assoc, List.singleton_append, rd_app _ _ _ _ (by rw [hlen]; omega)]
      have hsh : shl .u8 (bt s ((i + 1 : Nat) : Int)) 0 = bt s ((i + 1 : Nat) : Int) := shl0 _ hb.1 (by omega)
      rw [hsh, or_low _ _ (by omega) (by omega) (by omega) hb.1 (by omega)]
      rw [show (i + 1) / 2 = (twoL ((bytesOf s).take i)).length from hlen.symm, set_app]
      have := ih k (i + 1 + 1) (by omega) (by omega)
      rw [ht, hti, List.append_assoc, twoL_append _ _ hev] at this
      rw [show (s.size + 1) / 2 - (i + 1 + 1) / 2 = (s.size + 1) / 2 - (i + 1 + 1 + 1) / 2 by omega]
      have e4 : (bt s i * 16 % 256 + bt s ((i + 1 : Nat) : Int)) = (bt s i * 16 + bt s ((i + 1 : Nat) : Int)) % 256 := by omega
      rw [e4]
      simpa [twoL] using this
theorem two_f (s : ByteArray) (hs : s.size ≤ 1000000) (hsm : smallL (bytesOf s) = true) (k : Nat) (hk : s.size < k) : nibble_two.f k s = some (strOfNums (twoL (bytesOf s))) := by
  unfold nibble_two.f
  have e2 : wrap64 (Int.tdiv (wrap64 ((s.size : Int) + 1)) 2) = (((s.size + 1) / 2 : Nat) : Int) := by rw [wr (x := (s.size : Int) + 1) (by omega) (by omega), Int.tdiv_eq_ediv_of_nonneg (by omega), wr (by omega) (by omega)]; omega
  rw [e2, Int.toNat_natCast, if_pos (by omega), if_pos (by omega)]
  have := two_loop s hs hsm s.size k 0 (by omega) hk
  simpa [twoL] using this

/-! ### Texts and lists of numbers -/
abbrev E0 : ByteArray := ⟨#[]⟩
def R (l : List Int) : Prop := ∀ x ∈ l, 0 ≤ x ∧ x < 256
theorem R_bytesOf (s : ByteArray) : R (bytesOf s) := by
  intro x hx
  simp only [bytesOf, List.mem_map] at hx
  obtain ⟨b, _, rfl⟩ := hx
  have := b.toNat_lt
  omega
theorem str_bytes (s : ByteArray) : strOfNums (bytesOf s) = s := by
  have h : (strOfNums (bytesOf s)).data.toList = s.data.toList := by
    rw [strOfNums_data, bytesOf, List.map_map]
    conv => rhs; rw [← List.map_id s.data.toList]
    congr 1
    funext b
    simp
  have h2 : (strOfNums (bytesOf s)).data = s.data := by rw [← Array.toList_inj]; exact h
  cases s; cases hh : strOfNums (bytesOf _); rw [hh] at h2; simp at h2; rw [h2]
theorem bytes_str (l : List Int) (h : R l) : bytesOf (strOfNums l) = l := by
  rw [bytesOf, strOfNums_data, List.map_map]
  conv => rhs; rw [← List.map_id l]
  apply List.map_congr_left
  intro x hx
  have := h x hx
  show ((UInt8.ofNat x.toNat).toNat : Int) = x
  rw [UInt8.toNat_ofNat']
  omega
theorem str_inj {a b : List Int} (ha : R a) (hb : R b) (h : strOfNums a = strOfNums b) : a = b := by
  rw [← bytes_str a ha, ← bytes_str b hb, h]
theorem bytes_inj {s t : ByteArray} (h : bytesOf s = bytesOf t) : s = t := by rw [← str_bytes s, ← str_bytes t, h]
theorem str_app (a b : List Int) : strOfNums (a ++ b) = strOfNums a ++ strOfNums b := by
  have h : (strOfNums (a ++ b)).data = (strOfNums a ++ strOfNums b).data := by
    rw [← Array.toList_inj, ByteArray.data_append, Array.toList_append]
    simp only [strOfNums_data, List.map_append]
  cases h1 : strOfNums (a ++ b); cases h2 : strOfNums a ++ strOfNums b; rw [h1, h2] at h; simp at h; rw [h]
theorem bytes_app (s t : ByteArray) : bytesOf (s ++ t) = bytesOf s ++ bytesOf t := by
  simp [bytesOf, ByteArray.data_append]
theorem bytes_extract (s : ByteArray) (a b : Nat) : bytesOf (s.extract a b) = ((bytesOf s).take b).drop a := by
  rw [List.drop_take]; simp [bytesOf, ByteArray.data_extract, List.map_drop, List.map_take]
theorem R_nil : R [] := fun x h => by cases h
theorem R_app {a b : List Int} (ha : R a) (hb : R b) : R (a ++ b) := fun x h => (List.mem_append.1 h).elim (ha x) (hb x)
theorem R_take {a : List Int} (ha : R a) (n : Nat) : R (a.take n) := fun x h => ha x (List.mem_of_mem_take h)
theorem R_drop {a : List Int} (ha : R a) (n : Nat) : R (a.drop n) := fun x h => ha x (List.mem_of_mem_drop h)
theorem R_nibL {l : List Int} (h : R l) : R (nibL l) := by
  induction l with
  | nil => exact R_nil
  | cons b l ih =>
    rw [nibL_cons]
    refine R_app (fun x hx => ?_) (ih fun x hx => h x (List.mem_cons_of_mem _ hx))
    have := h b List.mem_cons_self
    simp at hx
    rcases hx with rfl | rfl <;> omega
theorem small_nibL {l : List Int} (h : R l) : smallL (nibL l) = true := by
  induction l with
  | nil => rfl
  | cons b l ih =>
    have hb := h b List.mem_cons_self
    rw [nibL_cons]
    have := ih fun x hx => h x (List.mem_cons_of_mem _ hx)
    simp only [smallL, List.all_append, Bool.and_eq_true] at this ⊢
    refine ⟨?_, this⟩
    simp
    omega
theorem R_twoL (l : List Int) : R (twoL l) := by
  fun_induction twoL l with
  | case1 => exact R_nil
  | case2 x => intro y hy; simp at hy; subst hy; omega
  | case3 x y l ih =>
    intro z hz
    rcases List.mem_cons.1 hz with rfl | hz
    · omega
    · exact ih z hz
theorem twoL_nibL (l : List Int) (h : R l) : twoL (nibL l) = l := by
  induction l with
  | nil => rfl
  | cons b l ih =>
    have hb := h b List.mem_cons_self
    show (b / 16 * 16 + b % 16) % 256 :: twoL (nibL l) = _
    rw [ih fun x hx => h x (List.mem_cons_of_mem _ hx)]
    congr 1
    omega
theorem nibL_app (a b : List Int) : nibL (a ++ b) = nibL a ++ nibL b := by simp [nibL]

/-! ### Key -/
/-! ### Pack -/
def packS (s : ByteArray) : ByteArray × Bool := if goodL (bytesOf s) = true then (strOfNums ((s.size : Int) :: twoL (bytesOf s)), true) else (E0, false)
theorem good_size {s : ByteArray} (h : goodL (bytesOf s) = true) : s.size ≤ 16 ∧ smallL (bytesOf s) = true := by
  simp only [goodL, Bool.and_eq_true, decide_eq_true_eq, len_bytesOf] at h; exact h
theorem big {n : Nat} (h : n ≤ 1000) : n ≤ 9223372036854775807 := by omega
theorem pack_f (s : ByteArray) (hs : s.size ≤ 1000000) (k : Nat) (hk : s.size < k) : nibble_Pack.f k s = some (packS s) := by
  unfold nibble_Pack.f packS
  rw [good_f s hs k hk, Option.bind_some]
  by_cases h : goodL (bytesOf s) = true
  · obtain ⟨h1, h2⟩ := good_size h
    rw [if_pos h, if_pos h, two_f s hs h2 k hk, Option.bind_some, Option.bind_some]
    have hsz : (strOfNums [(s.size : Int) % 256]).size + (strOfNums (twoL (bytesOf s))).size ≤ 1000 := by rw [strOfNums_size, strOfNums_size, twoL_length, len_bytesOf, List.length_singleton]; omega
    rw [if_pos (big hsz), ← str_app, show (s.size : Int) % 256 = s.size by omega, List.singleton_append]
  · rw [if_neg h, if_neg h]
theorem ref_pack_loop (s : ByteArray) (hs : s.size ≤ 1000000) (d : Nat) : ∀ (k j : Nat) (acc : List Int), s.size ≤ j + d → j % 2 = 0 → d < k → acc.length ≤ j + 1 → j ≤ s.size + 1 →
    r2Pack.l0 k s acc j = some (strOfNums (acc ++ twoL ((bytesOf s).drop j)), true) := by
  induction d with
  | zero =>
    intro k j acc hj he hk ha hjl
    obtain ⟨k, rfl⟩ : ∃ m, k = m + 1 := ⟨k - 1, by omega⟩
    simp only [r2Pack.l0]
    rw [if_neg (by omega), drop_end s j (by omega)]
    simp [twoL]
  | succ d ih =>
    intro k j acc hj he hk ha hjl
    obtain ⟨k, rfl⟩ : ∃ m, k = m + 1 := ⟨k - 1, by omega⟩
    have hj1 : wrap64 ((j : Int) + 1) = ((j + 1 : Nat) : Int) := by rw [wr (by omega) (by omega)]; omega
    have hj2 : wrap64 ((j : Int) + 2) = ((j + 2 : Nat) : Int) := by rw [wr (by omega) (by omega)]; omega
    simp only [r2Pack.l0]
    by_cases h : j < s.size
    · rw [if_pos (by omega), if_pos (by omega), hj1, hj2, drop_bytes s j h]
      by_cases h2 : j + 1 < s.size
      · rw [if_pos (by omega), if_pos (by omega), if_pos (by omega), ih k (j + 2) _ (by omega) (by omega) (by omega) (by simp; omega) (by omega), drop_bytes s (j + 1) h2]
        simp [twoL]
      · rw [if_neg (by omega), if_pos (by omega), ih k (j + 2) _ (by omega) (by omega) (by omega) (by simp; omega) (by omega), drop_end s (j + 1) (by omega), drop_end s (j + 2) (by omega)]
        simp [twoL]
    · rw [if_neg (by omega), drop_end s j (by omega)]
      simp [twoL]
theorem ref_pack_f (s : ByteArray) (hs : s.size ≤ 1000000) (k : Nat) (hk : s.size < k) : r2Pack.f k s = some (packS s) := by
  unfold r2Pack.f packS
  rw [ref_good_f s hs k hk]
  simp only [Option.bind_some]
  by_cases h : goodL (bytesOf s) = true
  · obtain ⟨h1, h2⟩ := good_size h
    rw [if_pos h, if_pos h]
    have := ref_pack_loop s hs s.size k 0 [(s.size : Int) % 256] (by omega) (by omega) hk (by simp) (by omega)
    rw [show ((0 : Nat) : Int) = 0 from rfl] at this
    rw [this, show (s.size : Int) % 256 = s.size by omega]; rfl
  · rw [if_neg h, if_neg h]

/-! ### Unpack -/
def unpS (s : ByteArray) : ByteArray × Int × Bool :=
  match bytesOf s with
  | [] => (E0, 0, false)
  | n :: l => if n ≤ 16 ∧ (n.toNat + 1) / 2 ≤ l.length ∧ twoL ((nibL (l.take ((n.toNat + 1) / 2))).take n.toNat) = l.take ((n.toNat + 1) / 2) then (strOfNums ((nibL (l.take ((n.toNat + 1) / 2))).take n.toNat), 1 + ((n.toNat + 1) / 2 : Nat), true) else (E0, 0, false)
theorem nib_at (l : List Int) (b : Int) : rd (nibL (l ++ [b])) ((2 * l.length + 1 : Nat) : Int) = b % 16 := by
  rw [nibL_app, rd, Int.toNat_natCast]
  simp only [List.getD]
  rw [List.getElem?_append_right (by rw [nibL_length]; omega), nibL_length, show 2 * l.length + 1 - 2 * l.length = 1 by omega]
  rfl
theorem two_take (l : List Int) (hl : R l) (n : Nat) (hn : (n + 1) / 2 = l.length) : twoL ((nibL l).take n) = l ↔ (n < (nibL l).length → rd (nibL l) n = 0) := by
  rw [nibL_length]
  by_cases h : n = 2 * l.length
  · rw [h, List.take_of_length_le (by rw [nibL_length]; omega), twoL_nibL l hl]
    exact ⟨fun _ c => by omega, fun _ => rfl⟩
  · obtain ⟨a, b, rfl⟩ : ∃ a b, l = a ++ [b] := by
      rcases List.eq_nil_or_concat l with h2 | ⟨a, b, h2⟩
      · subst h2; exact absurd (show n = 2 * ([] : List Int).length by rw [List.length_nil] at hn ⊢; omega) h
      · exact ⟨a, b, by rw [h2, List.concat_eq_append]⟩
    have hb := hl b (by simp)
    have hn2 : n = 2 * a.length + 1 := by simp at hn h; omega
    subst hn2
    have ha : R a := fun x hx => hl x (by simp [hx])
    rw [nib_at, nibL_app, List.take_append, nibL_length, List.take_of_length_le (by rw [nibL_length]; omega), show 2 * a.length + 1 - 2 * a.length = 1 by omega, twoL_append _ _ (by rw [nibL_length]; omega), twoL_nibL a ha]
    have e : twoL ((nibL [b]).take 1) = [b / 16 * 16 % 256] := rfl
    rw [e]
    constructor
    · intro h3 _
      have := List.append_cancel_left h3
      simp at this
      omega
    · intro h3
      have := h3 (by simp; omega)
      congr 2
      omega
theorem str_size {l : List Int} : (strOfNums l).size = l.length := strOfNums_size l
theorem bt_str {l : List Int} (h : R l) (i : Int) : bt (strOfNums l) i = rd l i := by rw [bt_rd, bytes_str l h]
theorem str_extract {l : List Int} (h : R l) (n : Nat) : (strOfNums l).extract 0 n = strOfNums (l.take n) := by
  apply bytes_inj
  rw [bytes_extract, bytes_str l h, bytes_str _ (R_take h n)]; rfl

theorem toList_eq (s : ByteArray) : s.toList = s.data.toList := ByteArray.toList_eq s
theorem toList_nil (s : ByteArray) : s.toList = ([] : List UInt8) ↔ bytesOf s = [] := by
  rw [toList_eq]; simp [bytesOf]
theorem toList_inj (s t : ByteArray) : s.toList = t.toList ↔ s = t := by
  constructor
  · intro h
    rw [toList_eq, toList_eq] at h
    exact bytes_inj (by unfold bytesOf; rw [h])
  · rintro rfl; rfl
theorem used_eq (n : Int) (h0 : 0 ≤ n) (h1 : n < 256) : wrap64 (1 + (wrap64 (Int.tdiv (wrap64 ((wrap64 n) + 1)) 2))) = ((1 + (n.toNat + 1) / 2 : Nat) : Int) := by
  rw [wr (x := n) (by omega) (by omega), wr (x := n + 1) (by omega) (by omega), Int.tdiv_eq_ediv_of_nonneg (by omega), wr (x := (n + 1) / 2) (by omega) (by omega), wr (by omega) (by omega)]
  omega
theorem unp_f (s : ByteArray) (hs : s.size ≤ 1000000) (k : Nat) (hk : s.size + 2 < k) : nibble_Unpack.f k s = some (unpS s) := by
  have hlen := len_bytesOf s
  have hR := R_bytesOf s
  obtain ⟨k, rfl⟩ : ∃ m, k = m + 1 := ⟨k - 1, by omega⟩
  unfold nibble_Unpack.f unpS
  cases hb : bytesOf s with
  | nil => rw [if_pos ((toList_nil s).2 hb)]; rfl
  | cons n l =>
    rw [hb] at hlen hR
    have hn := hR n List.mem_cons_self
    have hl : R l := fun x hx => hR x (List.mem_cons_of_mem _ hx)
    have hbt : bt s 0 = n := by rw [bt_rd, hb]; rfl
    rw [List.length_cons] at hlen
    rw [if_neg (fun h => by rw [(toList_nil s).1 h] at hb; cases hb), if_pos (by omega), hbt]
    simp only [nibble_Unpack.j0]
    rw [hbt, used_eq n hn.1 hn.2, wr (x := n) (by omega) (by omega)]
    obtain ⟨m, hm⟩ : ∃ m, m = (n.toNat + 1) / 2 := ⟨_, rfl⟩
    rw [← hm]
    by_cases h1 : n ≤ 16
    · rw [if_neg (by simp; omega), if_pos (by omega)]
      by_cases h2 : m ≤ l.length
      · have hbe : bytesOf (s.extract 1 (1 + m)) = l.take m := by
          rw [bytes_extract, hb, Nat.add_comm 1 m]; rfl
        have hsz : (s.extract 1 (1 + m)).size = m := by rw [← len_bytesOf, hbe, List.length_take]; omega
        rw [if_neg (by omega), if_pos (by omega), if_pos (by omega), Int.toNat_natCast, of_f _ (by omega) k (by omega), hbe, Option.bind_some, str_size, nibL_length, List.length_take, Nat.min_eq_left h2, bt_str (R_nibL (R_take hl m))]
        have hlm : (l.take m).length = m := by rw [List.length_take]; omega
        have htt := two_take (l.take m) (R_take hl m) n.toNat (by rw [hlm, hm])
        rw [nibL_length, hlm, Int.toNat_of_nonneg hn.1] at htt
        rw [str_extract (R_nibL (R_take hl m))]
        by_cases h3 : n < ((2 * m : Nat) : Int)
        · rw [if_pos h3, if_pos hn.1]
          by_cases h4 : rd (nibL (l.take m)) n = 0
          · rw [if_pos h4, if_pos (by omega), if_pos ⟨h1, h2, htt.2 fun _ => h4⟩]
            simp
          · rw [if_neg h4, if_neg (fun c => h4 (htt.1 c.2.2 (by omega)))]
        · rw [if_neg h3, if_pos hn.1, if_pos (by omega), if_pos ⟨h1, h2, htt.2 fun c => by omega⟩]
          simp
      · rw [if_pos (by omega), if_neg (fun c => h2 c.2.1)]
    · rw [if_pos (by simp; omega), if_neg (fun c => h1 c.1)]
theorem ref_unp_f (s : ByteArray) (hs : s.size ≤ 1000000) (k : Nat) (hk : s.size + 20 < k) : r2Unpack.f k s = some (unpS s) := by
  have hlen := len_bytesOf s
  have hR := R_bytesOf s
  obtain ⟨k, rfl⟩ : ∃ m, k = m + 1 := ⟨k - 1, by omega⟩
  unfold r2Unpack.f unpS
  cases hb : bytesOf s with
  | nil => rw [hb] at hlen; rw [if_pos (by simp at hlen; omega)]; rfl
  | cons n l =>
    rw [hb] at hlen hR
    have hn := hR n List.mem_cons_self
    have hl : R l := fun x hx => hR x (List.mem_cons_of_mem _ hx)
    have hbt : bt s 0 = n := by rw [bt_rd, hb]; rfl
    rw [List.length_cons] at hlen
    rw [if_neg (by omega), if_pos (by omega), hbt]
    simp only [r2Unpack.j0]
    rw [hbt, used_eq n hn.1 hn.2, wr (x := n) (by omega) (by omega)]
    obtain ⟨m, hm⟩ : ∃ m, m = (n.toNat + 1) / 2 := ⟨_, rfl⟩
    rw [← hm]
    by_cases h1 : n ≤ 16
    · rw [if_neg (by simp; omega), if_pos (by omega)]
      by_cases h2 : m ≤ l.length
      · have hbe : bytesOf (s.extract 1 (1 + m)) = l.take m := by
          rw [bytes_extract, hb, Nat.add_comm 1 m]; rfl
        have hsz : (s.extract 1 (1 + m)).size = m := by rw [← len_bytesOf, hbe, List.length_take]; omega
        have hlm : (l.take m).length = m := by rw [List.length_take]; omega
        have hRt := R_take (R_nibL (R_take hl m)) n.toNat
        rw [if_neg (by omega), if_pos (by omega), if_pos (by omega), Int.toNat_natCast, ref_of_f _ (by omega) k (by omega), hbe, Option.bind_some, str_size, nibL_length, hlm, if_pos hn.1, if_pos (by omega), str_extract (R_nibL (R_take hl m))]
        have hsz2 : (strOfNums ((nibL (l.take m)).take n.toNat)).size ≤ 16 := by rw [str_size, List.length_take]; omega
        have hgood : goodL (bytesOf (strOfNums ((nibL (l.take m)).take n.toNat))) = true := by
          rw [bytes_str _ hRt]
          simp only [goodL, Bool.and_eq_true, decide_eq_true_eq]
          refine ⟨by rw [List.length_take]; omega, ?_⟩
          have := small_nibL (R_take hl m)
          simp only [smallL, List.all_eq_true] at this ⊢
          exact fun x hx => this x (List.mem_of_mem_take hx)
        rw [ref_pack_f _ (by omega) k (by omega), Option.bind_some, packS, if_pos hgood, if_pos (by omega), bytes_str _ hRt]
        have hnl : ((strOfNums ((nibL (l.take m)).take n.toNat)).size : Int) = n := by rw [str_size, List.length_take, nibL_length, hlm]; omega
        have hex : s.extract 0 (1 + m) = strOfNums (n :: l.take m) := by
          apply bytes_inj
          rw [bytes_extract, hb, bytes_str _ (fun x hx => (List.mem_cons.1 hx).elim (fun e => by rw [e]; exact hn) (fun h => R_take hl m x h)), Nat.add_comm 1 m]; rfl
        have hcond : ((strOfNums (((strOfNums ((nibL (l.take m)).take n.toNat)).size : Int) :: twoL ((nibL (l.take m)).take n.toNat)), true).1.toList = (s.extract 0 (1 + m)).toList) ↔ twoL ((nibL (l.take m)).take n.toNat) = l.take m := by
          rw [toList_inj, hex, hnl]
          constructor
          · intro h
            have := str_inj (fun x hx => (List.mem_cons.1 hx).elim (fun e => by rw [e]; exact hn) (fun h => R_twoL _ x h)) (fun x hx => (List.mem_cons.1 hx).elim (fun e => by rw [e]; exact hn) (fun h => R_take hl m x h)) h
            exact (List.cons.inj this).2
          · intro h; rw [h]
        by_cases h4 : twoL ((nibL (l.take m)).take n.toNat) = l.take m
        · rw [if_pos (hcond.2 h4), if_pos ⟨h1, h2, h4⟩]
          simp
        · rw [if_neg (fun c => h4 (hcond.1 c)), if_neg (fun c => h4 c.2.2)]
      · rw [if_pos (by omega), if_neg (fun c => h2 c.2.1)]
    · rw [if_pos (by simp; omega), if_neg (fun c => h1 c.1)]

end Go.Proofs.YtklakmooaffjpaaDoor.NibP
