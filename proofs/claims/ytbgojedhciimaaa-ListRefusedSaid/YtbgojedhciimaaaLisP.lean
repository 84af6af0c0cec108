/-
  What the functions of package list and of its reference come to, in plain lists.
-/
import Derived.Test.YtbgojedhciimaaaPLisx0
import Derived.Test.YtbgojedhciimaaaPLisx1
import Derived.Test.YtbgojedhciimaaaPLisx2
import Derived.Test.YtbgojedhciimaaaPLisx3
import Derived.Test.YtbgojedhciimaaaPLisx4
import Derived.Test.YtbgojedhciimaaaLisE
import Derived.Test.YtbgojedhciimaaaLisS
import Derived.Test.YtbgojedhciimaaaStr
namespace Go.Proofs.Ytbgojedhciimaaa.LisP
open Go.RowKit Go.Proofs.YtbgojedhciimaaaW.PrintWords Go.Proofs.YtbgojedhciimaaaW.PrintMore Go.Proofs.Ytbgojedhciimaaa.Str Go.Proofs.Ytbgojedhciimaaa.LisH Go.Proofs.Ytbgojedhciimaaa.LisS Go.Proofs.Ytbgojedhciimaaa.PLis
set_option linter.unusedVariables false
open Classical
theorem rd_nat (l : List Int) (j : Nat) : rd l (j : Int) = l.getD j 0 := by simp [rd]
/-- The i-th of a list may be. -/
def okAt (l : List Int) (i : Nat) : Prop := (2 ≤ l.getD i 0 ∧ l.getD i 0 < 200) ∧ (0 < i → l.getD (i - 1) 0 < l.getD i 0)
/-- From j on. -/
def From (l : List Int) (j : Nat) : Prop := ∀ i, j ≤ i → i < l.length → okAt l i
def Nx (next : Int) : Prop := next = 0 ∨ 2 ≤ next ∧ next < 200
/-- A list may be. -/
def May (l : List Int) (next : Int) : Prop := From l 0 ∧ l.length ≤ 20 ∧ Nx next
theorem from_end (l : List Int) : From l l.length := fun i h1 h2 => by omega
theorem from_step {l : List Int} {j : Nat} (h : j < l.length) : From l j ↔ okAt l j ∧ From l (j + 1) := by
  constructor
  · exact fun f => ⟨f j (Nat.le_refl _) h, fun i h1 h2 => f i (by omega) h2⟩
  · rintro ⟨f, g⟩ i h1 h2
    rcases Nat.lt_or_ge j i with q | q
    · exact g i q h2
    · rw [show i = j by omega]; exact f
theorem may_loop (l : List Int) (next : Int) (hl : l.length ≤ 1000) (d : Nat) : ∀ (k j : Nat), j + d = l.length → d < k → list_may.l0 k l next l (l.length : Int) j = some (decide (From l j ∧ l.length ≤ 20 ∧ Nx next)) := by
  induction d with
  | zero =>
    intro k j hj hk
    obtain ⟨k, rfl⟩ : ∃ m, k = m + 1 := ⟨k - 1, by omega⟩
    have hf : From l j := by rw [show j = l.length by omega]; exact from_end l
    simp only [list_may.l0]
    rw [if_neg (by omega)]
    by_cases c : l.length ≤ 20
    · rw [if_pos (by omega)]
      by_cases c2 : next = 0
      · rw [if_pos c2]; simp [hf, c, Nx, c2]
      · rw [if_neg c2]
        unfold list_page.f
        by_cases c3 : 2 ≤ next
        · rw [if_pos c3]; simp [hf, c, Nx, c2, c3]
        · rw [if_neg c3]; simp [hf, c, Nx, c2, c3]
    · rw [if_neg (by omega)]; simp [c]
  | succ d ih =>
    intro k j hj hk
    obtain ⟨k, rfl⟩ : ∃ m, k = m + 1 := ⟨k - 1, by omega⟩
    have hs := from_step (l := l) (j := j) (by omega)
    have IH := ih k (j + 1) (by omega) (by omega)
    simp only [list_may.l0]
    rw [if_pos (by omega), if_pos (by omega), if_pos (by omega), wr (x := (j : Int) + 1) (by omega) (by omega), show ((j : Int) + 1) = ((j + 1 : Nat) : Int) by omega, IH, rd_nat]
    unfold list_page.f
    by_cases c1 : 2 ≤ l.getD j 0
    · rw [if_pos c1]
      simp only [Option.bind_some]
      by_cases c2 : l.getD j 0 < 200
      · rw [if_pos (by simpa using c2)]
        by_cases c3 : 0 < j
        · rw [if_pos (by omega), wr (by omega) (by omega), if_pos (by omega), if_pos (by omega), show ((j : Int) - 1) = ((j - 1 : Nat) : Int) by omega, rd_nat]
          by_cases c4 : l.getD j 0 ≤ l.getD (j - 1) 0
          · rw [if_pos c4]
            have : ¬ From l j := fun f => by have := (hs.1 f).1.2 c3; omega
            simp [this]
          · rw [if_neg c4]
            have : okAt l j := ⟨⟨c1, c2⟩, fun _ => by omega⟩
            simp [hs, this]
        · rw [if_neg (by omega)]
          have : okAt l j := ⟨⟨c1, c2⟩, fun h => absurd h c3⟩
          simp [hs, this]
      · rw [if_neg (by simpa using c2)]
        have : ¬ From l j := fun f => c2 (hs.1 f).1.1.2
        simp [this]
    · rw [if_neg c1]
      have : ¬ From l j := fun f => c1 (hs.1 f).1.1.1
      simp [this]
theorem may_f (l : List Int) (next : Int) (hl : l.length ≤ 1000) (k : Nat) (hk : l.length < k) : list_may.f k l next = some (decide (May l next)) := by
  unfold list_may.f
  have h := may_loop l next hl l.length k 0 (by omega) hk
  exact h.trans (congrArg some (decide_eq_decide.2 Iff.rfl))
theorem b2_eq (v : Int) : [v / 256 % 256, v % 256] = b2 v := rfl
theorem flat_step {l : List Int} {j : Nat} (h : j < l.length) : (l.drop j).flatMap b2 = b2 (l.getD j 0) ++ (l.drop (j + 1)).flatMap b2 := by
  rw [List.drop_eq_getElem_cons h, List.flatMap_cons, List.getD_eq_getElem?_getD, List.getElem?_eq_getElem h]
  rfl
theorem renc_loop (l : List Int) (hl : l.length ≤ 1000) (d : Nat) : ∀ (k j : Nat) (acc : List Int), j + d = l.length → d < k → acc.length ≤ 2 * j + 3 →
    umbelref22_Encode.l0 k l acc j = some (if From l j then strOfNums (acc ++ (l.drop j).flatMap b2) else E0) := by
  induction d with
  | zero =>
    intro k j acc hj hk ha
    obtain ⟨k, rfl⟩ : ∃ m, k = m + 1 := ⟨k - 1, by omega⟩
    have hf : From l j := by rw [show j = l.length by omega]; exact from_end l
    simp only [umbelref22_Encode.l0]
    rw [if_neg (by omega), if_pos hf, List.drop_eq_nil_of_le (by omega)]
    simp
  | succ d ih =>
    intro k j acc hj hk ha
    obtain ⟨k, rfl⟩ : ∃ m, k = m + 1 := ⟨k - 1, by omega⟩
    have hs := from_step (l := l) (j := j) (by omega)
    have H : (if acc.length + ([rd l (j : Int) / 256 % 256, rd l (j : Int) % 256] : List Int).length < 140737488355328 then umbelref22_Encode.l0 k l (acc ++ [rd l (j : Int) / 256 % 256, rd l (j : Int) % 256]) (wrap64 ((j : Int) + 1)) else none) = some (if From l (j + 1) then strOfNums (acc ++ (l.drop j).flatMap b2) else E0) := by
      rw [if_pos (by simp; omega), wr (by omega) (by omega), show ((j : Int) + 1) = ((j + 1 : Nat) : Int) by omega, ih k (j + 1) _ (by omega) (by omega) (by simp; omega), rd_nat, List.append_assoc, b2_eq, ← flat_step (by omega)]
    simp only [umbelref22_Encode.l0, Option.bind_some, H]
    rw [if_pos (by omega), if_pos (by omega), rd_nat]
    unfold umbelref20_Page.f
    by_cases c1 : 2 ≤ l.getD j 0
    · rw [if_pos c1]
      simp only [Option.bind_some]
      by_cases c2 : l.getD j 0 < 200
      · rw [if_pos (by simpa using c2)]
        by_cases c3 : 0 < j
        · rw [if_pos (by omega), wr (x := (j : Int) - 1) (by omega) (by omega), if_pos (by omega), if_pos (by omega), show ((j : Int) - 1) = ((j - 1 : Nat) : Int) by omega, rd_nat]
          by_cases c4 : l.getD j 0 ≤ l.getD (j - 1) 0
          · rw [if_pos c4]
            have : ¬ From l j := fun f => by have := (hs.1 f).1.2 c3; omega
            simp [this]
          · rw [if_neg c4]
            have : okAt l j := ⟨⟨c1, c2⟩, fun _ => by omega⟩
            simp [hs, this]
        · rw [if_neg (by omega)]
          have : okAt l j := ⟨⟨c1, c2⟩, fun h => absurd h c3⟩
          simp [hs, this]
      · rw [if_neg (by simpa using c2)]
        have : ¬ From l j := fun f => c2 (hs.1 f).1.1.2
        simp [this]
    · rw [if_neg c1]
      have : ¬ From l j := fun f => c1 (hs.1 f).1.1.1
      simp [this]
/-- The bytes, or none. -/
noncomputable def enc (l : List Int) (next : Int) : ByteArray := if May l next then strOfNums (encL l next) else E0
theorem renc_f (l : List Int) (next : Int) (hl : l.length ≤ 1000) (k : Nat) (hk : l.length + 1 < k) : umbelref22_Encode.f k l next = some (enc l next) := by
  obtain ⟨k, rfl⟩ : ∃ m, k = m + 1 := ⟨k - 1, by omega⟩
  unfold umbelref22_Encode.f
  simp only [umbelref22_Encode.j0]
  have L := renc_loop l hl l.length k 0 [next / 256 % 256, next % 256, (l.length : Int) % 256] (by omega) (by omega) (by simp)
  have hL : umbelref22_Encode.l0 k l [next / 256 % 256, next % 256, (l.length : Int) % 256] 0 = some (if From l 0 then strOfNums (encL l next) else E0) := by
    have e : encL l next = [next / 256 % 256, next % 256, (l.length : Int) % 256] ++ (l.drop 0).flatMap b2 := by simp [encL, b2]
    rw [e]
    exact L
  by_cases c : l.length ≤ 20
  · rw [if_neg (by omega)]
    by_cases c2 : next = 0
    · rw [if_pos c2, if_neg (by decide), hL]
      simp [enc, May, c, Nx, c2]
    · rw [if_neg c2]
      unfold umbelref20_Page.f
      by_cases c3 : 2 ≤ next
      · rw [if_pos c3]
        simp only [Option.bind_some]
        by_cases c4 : next < 200
        · rw [if_neg (by simpa using c4), hL]
          simp [enc, May, c, Nx, c2, c3, c4]
        · rw [if_pos (by simpa using c4)]
          simp [enc, May, c, Nx, c2, c4]
      · rw [if_neg c3]
        simp [enc, May, c, Nx, c2, c3]
  · rw [if_pos (by omega)]
    simp [enc, May, c]
theorem or_byte (x y : Int) (hx0 : 0 ≤ x) (hx1 : x < 256) (h0 : 0 ≤ y) (h1 : y < 256) : Go.bits .or .i64 (x * 256) y = x * 256 + y :=
  bits_join .i64 62 (by decide) (fun n h0 h1 => by rw [IntKind.wrap_i64]; omega) 8 (x * 256) y (by omega) (by omega) (by omega) h0 (by omega) (by omega)
/-- A number of two bytes. -/
def num (s : ByteArray) (j : Nat) : Int := bt s j * 256 + bt s (j + 1 : Nat)
theorem join_num (s : ByteArray) (j : Nat) : Go.bits .or .i64 (wrap64 ((wrap64 (bt s (j : Int))) * 256)) (wrap64 (bt s ((j + 1 : Nat) : Int))) = num s j := by
  have h0 := bt_range s (j : Int)
  have h1 := bt_range s ((j + 1 : Nat) : Int)
  rw [wr (x := bt s (j : Int)) (by omega) (by omega), wr (x := bt s ((j + 1 : Nat) : Int)) (by omega) (by omega), wr (by omega) (by omega), or_byte _ _ (by omega) (by omega) (by omega) (by omega)]
  rfl
theorem num_range (s : ByteArray) (j : Nat) : 0 ≤ num s j ∧ num s j < 65536 := by
  have h0 := bt_range s (j : Int)
  have h1 := bt_range s ((j + 1 : Nat) : Int)
  unfold num; omega
theorem number_f (s : ByteArray) (h : 2 ≤ s.size) : list_number.f s = some (num s 0) := by
  unfold list_number.f
  rw [if_pos (by omega), if_pos (by omega)]
  exact congrArg some (join_num s 0)
theorem bt_ext (s : ByteArray) (j i : Nat) (h : j + i < s.size) : bt (s.extract j s.size) (i : Int) = bt s ((j + i : Nat) : Int) := by
  rw [bt_rd, bt_rd, bytes_extract, rd_nat, rd_nat, List.getD_eq_getElem?_getD, List.getD_eq_getElem?_getD, List.getElem?_drop, List.getElem?_take, if_pos h]
theorem num_ext (s : ByteArray) (j : Nat) (h : j + 1 < s.size) : num (s.extract j s.size) 0 = num s j := by
  unfold num
  rw [bt_ext s j 0 (by omega), bt_ext s j (0 + 1) (by omega)]
  simp
theorem size_ext (s : ByteArray) (j : Nat) (h : j ≤ s.size) : (s.extract j s.size).size = s.size - j := by simp
/-- Numbers of two bytes each. -/
def prs (s : ByteArray) (j : Nat) : Nat → List Int
  | 0 => []
  | d + 1 => num s j :: prs s (j + 2) d
theorem prs_len (s : ByteArray) (d : Nat) : ∀ j, (prs s j d).length = d := by
  induction d with
  | zero => intro j; rfl
  | succ d ih => intro j; simp [prs, ih]
/-- What a list of numbers and a next one come to. -/
noncomputable def got (l : List Int) (next : Int) : List Int × Int × Bool := if May l next then (l, next, true) else ([], 0, false)
theorem dec_loop (s : ByteArray) (hs : s.size ≤ 1000) (next : Int) (d : Nat) : ∀ (k j : Nat) (acc : List Int), j + 2 * d = s.size → acc.length + d ≤ 1000 → 1001 + d < k →
    list_Decode.l0 k s acc next j = some (got (acc ++ prs s j d) next) := by
  induction d with
  | zero =>
    intro k j acc hj ha hk
    obtain ⟨k, rfl⟩ : ∃ m, k = m + 1 := ⟨k - 1, by omega⟩
    simp only [list_Decode.l0]
    rw [if_neg (by omega), may_f acc next (by omega) k (by omega)]
    simp only [Option.bind_some, prs, List.append_nil, got, decide_eq_true_eq]
    split <;> rfl
  | succ d ih =>
    intro k j acc hj ha hk
    obtain ⟨k, rfl⟩ : ∃ m, k = m + 1 := ⟨k - 1, by omega⟩
    simp only [list_Decode.l0]
    rw [if_pos (by omega), if_pos (by omega), if_pos (by omega), Int.toNat_natCast, number_f _ (by rw [size_ext s j (by omega)]; omega), num_ext s j (by omega)]
    simp only [Option.bind_some]
    rw [if_pos (by omega), wr (by omega) (by omega), show ((j : Int) + 2) = ((j + 2 : Nat) : Int) by omega, ih k (j + 2) _ (by omega) (by simp; omega) (by omega), List.append_assoc]
    rfl
/-- The numbers of bytes. -/
noncomputable def dec (s : ByteArray) : List Int × Int × Bool := if 3 ≤ s.size ∧ (s.size : Int) = 3 + 2 * bt s 2 then got (prs s 3 ((s.size - 3) / 2)) (num s 0) else ([], 0, false)
theorem dec_f (s : ByteArray) (hs : s.size ≤ 1000) (k : Nat) (hk : 2000 < k) : list_Decode.f k s = some (dec s) := by
  obtain ⟨k, rfl⟩ : ∃ m, k = m + 1 := ⟨k - 1, by omega⟩
  have hb := bt_range s 2
  unfold list_Decode.f dec
  simp only [list_Decode.j0]
  by_cases c : s.size < 3
  · rw [if_pos (by omega), if_neg (show ¬ (3 ≤ s.size ∧ (s.size : Int) = 3 + 2 * bt s 2) by omega)]; rfl
  · rw [if_neg (by omega), if_pos (by omega), wr (x := bt s 2) (by omega) (by omega), wr (x := 2 * bt s 2) (by omega) (by omega), wr (x := 3 + 2 * bt s 2) (by omega) (by omega)]
    by_cases c2 : (s.size : Int) = 3 + 2 * bt s 2
    · rw [if_neg (by simpa using c2), if_pos ⟨by omega, c2⟩, number_f s (by omega)]
      simp only [Option.bind_some]
      have := dec_loop s hs (num s 0) ((s.size - 3) / 2) k 3 [] (by omega) (by simp; omega) (by omega)
      simpa using this
    · rw [if_pos (by simpa using c2), if_neg (by omega)]
theorem b2_num (s : ByteArray) (j : Nat) (h : j + 1 < s.size) : b2 (num s j) = [bt s (j : Int), bt s ((j + 1 : Nat) : Int)] := by
  have h0 := bt_range s (j : Int)
  have h1 := bt_range s ((j + 1 : Nat) : Int)
  unfold b2 num
  congr 1
  · omega
  · congr 1; omega
theorem flat_prs (s : ByteArray) (d : Nat) : ∀ j, j + 2 * d = s.size → (prs s j d).flatMap b2 = (bytesOf s).drop j := by
  induction d with
  | zero => intro j hj; rw [drop_end s j (by omega)]; rfl
  | succ d ih =>
    intro j hj
    rw [prs, List.flatMap_cons, ih (j + 2) (by omega), b2_num s j (by omega), drop_bytes s j (by omega), drop_bytes s (j + 1) (by omega)]
    rfl
/-- The bytes of what bytes tell are they. -/
theorem encL_dec (s : ByteArray) (h3 : 3 ≤ s.size) (h : (s.size : Int) = 3 + 2 * bt s 2) : encL (prs s 3 ((s.size - 3) / 2)) (num s 0) = bytesOf s := by
  have hb := bt_range s 2
  unfold encL
  rw [flat_prs s _ 3 (by omega), prs_len, b2_num s 0 (by omega)]
  have e := drop_bytes s 0 (by omega)
  have e1 := drop_bytes s 1 (by omega)
  have e2 := drop_bytes s 2 (by omega)
  rw [List.drop_zero] at e
  rw [e, e1, e2, show (((s.size - 3) / 2 : Nat) : Int) % 256 = bt s ((2 : Nat) : Int) by simp only [Int.cast_ofNat_Int]; omega]
  rfl
theorem rdec_loop (s : ByteArray) (hs : s.size ≤ 1000) (h3 : 3 ≤ s.size) (hb2 : (s.size : Int) = 3 + 2 * bt s 2) (d : Nat) : ∀ (k j : Nat) (acc : List Int), j + 2 * d = s.size → acc.length + d ≤ 1000 → 1005 + d < k → acc ++ prs s j d = prs s 3 ((s.size - 3) / 2) →
    umbelref22_Decode.l0 k s j acc (num s 0) true = some (got (prs s 3 ((s.size - 3) / 2)) (num s 0)) := by
  induction d with
  | zero =>
    intro k j acc hj ha hk he
    obtain ⟨k, rfl⟩ : ∃ m, k = m + 1 := ⟨k - 1, by omega⟩
    have he' : acc = prs s 3 ((s.size - 3) / 2) := by rw [← he]; simp [prs]
    simp only [umbelref22_Decode.l0]
    rw [if_neg (by omega), renc_f acc (num s 0) (by omega) k (by omega)]
    simp only [Option.bind_some, toList_inj]
    rw [he']
    unfold enc got
    by_cases c : May (prs s 3 ((s.size - 3) / 2)) (num s 0)
    · rw [if_pos c, if_pos c, encL_dec s h3 hb2, str_bytes, if_pos rfl]
    · rw [if_neg c, if_neg c, if_neg]
      intro e
      have : s.size = 0 := by rw [← e]; rfl
      omega
  | succ d ih =>
    intro k j acc hj ha hk he
    obtain ⟨k, rfl⟩ : ∃ m, k = m + 1 := ⟨k - 1, by omega⟩
    simp only [umbelref22_Decode.l0]
    rw [if_pos (by omega), if_pos (by omega), wr (x := (j : Int) + 1) (by omega) (by omega), wr (x := (j : Int) + 2) (by omega) (by omega), show ((j : Int) + 2) = ((j + 2 : Nat) : Int) by omega, show ((j : Int) + 1) = ((j + 1 : Nat) : Int) by omega, if_pos (by omega), if_pos (by omega), if_pos (by omega), join_num, ih k (j + 2) _ (by omega) (by simp; omega) (by omega) (by rw [← he, List.append_assoc]; rfl)]
theorem rdec_f (s : ByteArray) (hs : s.size ≤ 1000) (k : Nat) (hk : 3000 < k) : umbelref22_Decode.f k s = some (dec s) := by
  obtain ⟨k, rfl⟩ : ∃ m, k = m + 1 := ⟨k - 1, by omega⟩
  have hb := bt_range s 2
  unfold umbelref22_Decode.f dec
  simp only [umbelref22_Decode.j0]
  by_cases c : s.size < 3
  · rw [if_pos (by omega), if_neg (show ¬ (3 ≤ s.size ∧ (s.size : Int) = 3 + 2 * bt s 2) by omega)]; rfl
  · rw [if_neg (by omega), if_pos (by omega), wr (x := bt s 2) (by omega) (by omega), wr (x := 2 * bt s 2) (by omega) (by omega), wr (x := 3 + 2 * bt s 2) (by omega) (by omega)]
    by_cases c2 : (s.size : Int) = 3 + 2 * bt s 2
    · rw [if_neg (by simpa using c2), if_pos (show (0 : Int) < (s.size : Int) by omega), if_pos (show (1 : Int) < (s.size : Int) by omega), if_pos (show 3 ≤ s.size ∧ (s.size : Int) = 3 + 2 * bt s 2 from ⟨by omega, c2⟩)]
      have e : Go.bits .or .i64 (wrap64 ((wrap64 (bt s 0)) * 256)) (wrap64 (bt s 1)) = num s 0 := join_num s 0
      rw [e]
      exact rdec_loop s hs (by omega) c2 ((s.size - 3) / 2) k 3 [] (by omega) (by simp; omega) (by omega) (by simp)
    · rw [if_pos (by simpa using c2), if_neg (by omega)]
theorem drop_iff {α : Type} (a b : List α) (j : Nat) (ha : j < a.length) (hb : j < b.length) : a.drop j = b.drop j ↔ a[j] = b[j] ∧ a.drop (j + 1) = b.drop (j + 1) := by
  rw [List.drop_eq_getElem_cons ha, List.drop_eq_getElem_cons hb, List.cons.injEq]
theorem ints_loop (a b : List Int) (hl : a.length = b.length) (hn : a.length ≤ 1000) (d : Nat) : ∀ (k j : Nat), j + d = a.length → d < k → umbelkeep_Ints.l0 k a b j = some (decide (a.drop j = b.drop j)) := by
  induction d with
  | zero =>
    intro k j hj hk
    obtain ⟨k, rfl⟩ : ∃ m, k = m + 1 := ⟨k - 1, by omega⟩
    simp only [umbelkeep_Ints.l0]
    rw [if_neg (by omega), List.drop_eq_nil_of_le (by omega), List.drop_eq_nil_of_le (by omega)]
    simp
  | succ d ih =>
    intro k j hj hk
    obtain ⟨k, rfl⟩ : ∃ m, k = m + 1 := ⟨k - 1, by omega⟩
    simp only [umbelkeep_Ints.l0]
    rw [if_pos (by omega), if_pos (by omega), if_pos (by omega), wr (by omega) (by omega), show ((j : Int) + 1) = ((j + 1 : Nat) : Int) by omega, ih k (j + 1) (by omega) (by omega), rd_nat, rd_nat]
    have ea : a.getD j 0 = a[j] := by simp [List.getD_eq_getElem?_getD, List.getElem?_eq_getElem (show j < a.length by omega)]
    have eb : b.getD j 0 = b[j] := by simp [List.getD_eq_getElem?_getD, List.getElem?_eq_getElem (show j < b.length by omega)]
    rw [ea, eb]
    by_cases c : a[j] = b[j]
    · rw [if_pos c]; simp [drop_iff a b j (by omega) (by omega), c]
    · rw [if_neg c]; simp [drop_iff a b j (by omega) (by omega), c]
theorem ints_f (a b : List Int) (hn : a.length ≤ 1000) (k : Nat) (hk : a.length < k) : umbelkeep_Ints.f k a b = some (decide (a = b)) := by
  unfold umbelkeep_Ints.f
  by_cases c : a.length = b.length
  · rw [if_pos (by omega)]
    have := ints_loop a b c hn a.length k 0 (by omega) hk
    simpa using this
  · rw [if_neg (by omega)]
    have : a ≠ b := fun e => c (by rw [e])
    simp [this]
theorem lists_loop (a b : List (List Int)) (hl : a.length = b.length) (hn : a.length ≤ 1000) (ha : ∀ x ∈ a, x.length ≤ 1000) (d : Nat) : ∀ (k j : Nat), j + d = a.length → 1001 + d < k → umbelkeep_Lists.l0 k a b j = some (decide (a.drop j = b.drop j)) := by
  induction d with
  | zero =>
    intro k j hj hk
    obtain ⟨k, rfl⟩ : ∃ m, k = m + 1 := ⟨k - 1, by omega⟩
    simp only [umbelkeep_Lists.l0]
    rw [if_neg (by omega), List.drop_eq_nil_of_le (by omega), List.drop_eq_nil_of_le (by omega)]
    simp
  | succ d ih =>
    intro k j hj hk
    obtain ⟨k, rfl⟩ : ∃ m, k = m + 1 := ⟨k - 1, by omega⟩
    simp only [umbelkeep_Lists.l0]
    have ea : rd_L2 a (j : Int) = a[j] := by simp [rd_L2, List.getD_eq_getElem?_getD, List.getElem?_eq_getElem (show j < a.length by omega)]
    have eb : rd_L2 b (j : Int) = b[j] := by simp [rd_L2, List.getD_eq_getElem?_getD, List.getElem?_eq_getElem (show j < b.length by omega)]
    have hx : a[j].length ≤ 1000 := ha _ (List.getElem_mem _)
    rw [if_pos (by omega), if_pos (by omega), if_pos (by omega), wr (by omega) (by omega), show ((j : Int) + 1) = ((j + 1 : Nat) : Int) by omega, ih k (j + 1) (by omega) (by omega), ea, eb, ints_f _ _ hx k (by omega)]
    simp only [Option.bind_some]
    by_cases c : a[j] = b[j]
    · rw [if_pos (by simpa using c)]; simp [drop_iff a b j (by omega) (by omega), c]
    · rw [if_neg (by simpa using c)]; simp [drop_iff a b j (by omega) (by omega), c]
theorem lists_f (a b : List (List Int)) (hn : a.length ≤ 1000) (ha : ∀ x ∈ a, x.length ≤ 1000) (k : Nat) (hk : 2002 < k) : umbelkeep_Lists.f k a b = some (decide (a = b)) := by
  unfold umbelkeep_Lists.f
  by_cases c : a.length = b.length
  · rw [if_pos (by omega)]
    have := lists_loop a b c hn ha a.length k 0 (by omega) (by omega)
    simpa using this
  · rw [if_neg (by omega)]
    have : a ≠ b := fun e => c (by rw [e])
    simp [this]
theorem rsplit_loop (l : List Int) (hl : l.length ≤ 1000) (d : Nat) : ∀ (k m : Nat), m + d = (l.length + 19) / 20 → d < k → umbelref22_Split.l0 k l ((List.range m).map (chk l)) ((20 * m : Nat) : Int) = some (chunks l) := by
  induction d with
  | zero =>
    intro k m hm hk
    obtain ⟨k, rfl⟩ : ∃ m, k = m + 1 := ⟨k - 1, by omega⟩
    simp only [umbelref22_Split.l0]
    rw [if_neg (by omega), chunks, ← hm]
    rfl
  | succ d ih =>
    intro k m hm hk
    obtain ⟨k, rfl⟩ : ∃ m, k = m + 1 := ⟨k - 1, by omega⟩
    have hmn : (mn (wrap64 (((20 * m : Nat) : Int) + 20)) (l.length : Int)) = ((min (20 * m + 20) l.length : Nat) : Int) := by
      rw [wr (by omega) (by omega)]
      unfold mn
      split <;> omega
    simp only [umbelref22_Split.l0, Option.bind_some, hmn, Int.toNat_natCast]
    rw [if_pos (by omega), if_pos (by omega), if_pos (by omega), if_pos (by omega), if_pos (by simp; omega), if_pos (by simp; omega), wr (by omega) (by omega), show (((20 * m : Nat) : Int) + 20) = ((20 * (m + 1) : Nat) : Int) by omega]
    have e : ([] : List Int) ++ (l.take (min (20 * m + 20) l.length)).drop (20 * m) = chk l m := by
      rw [List.nil_append, chk, List.take_drop, show l.take (min (20 * m + 20) l.length) = l.take (20 * m + 20) by rw [List.take_eq_take_iff]; omega]
    rw [e, show (List.range m).map (chk l) ++ [chk l m] = (List.range (m + 1)).map (chk l) by rw [List.range_succ, List.map_append]; rfl]
    exact ih k (m + 1) (by omega) (by omega)
theorem rsplit_f (l : List Int) (hl : l.length ≤ 1000) (k : Nat) (hk : 1000 < k) : umbelref22_Split.f k l = some (chunks l) := rsplit_loop l hl ((l.length + 19) / 20) k 0 (by omega) (by omega)
end Go.Proofs.Ytbgojedhciimaaa.LisP
