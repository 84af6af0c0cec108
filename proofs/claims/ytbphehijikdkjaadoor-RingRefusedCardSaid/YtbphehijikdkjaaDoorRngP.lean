/-
  What the ring's functions compute, in plain lists.
-/
import Derived.Test.YtbphehijikdkjaaDoorPRngx9
import Derived.Test.YtbphehijikdkjaaDoorDgsV
namespace Go.Proofs.YtbphehijikdkjaaDoor.RngP
open Go.RowKit Go.Proofs.YtbphehijikdkjaaDoor.PRng Go.Proofs.YtbphehijikdkjaaDoorW.PrintWords Go.Proofs.YtbphehijikdkjaaDoorW.PrintLast Go.Proofs.YtbphehijikdkjaaDoorW.PrintMore Go.Proofs.YtbphehijikdkjaaDoor.Str Go.Proofs.YtbphehijikdkjaaDoor.RngH
set_option linter.unusedVariables false
/-- May a root be? -/
def mayP (r : S49) : Prop := r.f0.size = 32 ∧ 1 ≤ r.f2 ∧ r.f2 ≤ 2147483647 ∧ ((r.f1 = 0 ∧ r.f0 = eH) ∨ (2 ≤ r.f1 ∧ r.f1 < 200 ∧ r.f0 ≠ eH))
instance (r : S49) : Decidable (mayP r) := by unfold mayP; infer_instance
/-- Roots that may be, each behind the last one. -/
def allF : Int → List S49 → Prop
  | _, [] => True
  | last, r :: l => mayP r ∧ last < r.f2 ∧ allF r.f2 l
instance decF : ∀ (l : List S49) (last : Int), Decidable (allF last l)
  | [], _ => .isTrue trivial
  | r :: l, last => by unfold allF; have := decF l r.f2; infer_instance
def allP (l : List S49) : Prop := allF 0 l ∧ l.length ≤ 6
instance (l : List S49) : Decidable (allP l) := by unfold allP; infer_instance
/-- A root's bytes. -/
def encO (r : S49) : List Int := bytesOf r.f0 ++ [r.f1 / 256 % 256, r.f1 % 256, r.f2 / 16777216 % 256, r.f2 / 65536 % 256, r.f2 / 256 % 256, r.f2 % 256]
/-- Roots' bytes. -/
def encL (l : List S49) : List Int := ((l.length : Int) % 256) :: l.flatMap encO
theorem R_encO (r : S49) : R (encO r) := by
  intro x hx
  simp only [encO, List.mem_append, List.mem_cons, List.not_mem_nil, or_false] at hx
  rcases hx with h | h | h | h | h | h | h
  · exact R_bytesOf _ x h
  all_goals (rw [h]; omega)
theorem R_encL (l : List S49) : R (encL l) := by
  intro x hx
  simp only [encL, List.mem_cons, List.mem_flatMap] at hx
  rcases hx with h | ⟨r, _, h⟩
  · rw [h]; omega
  · exact R_encO r x h
theorem str_eq_iff {a b : ByteArray} : (a.toList = b.toList) = (a = b) := by rw [toList_inj]
theorem rd_at (l : List S49) (i : Nat) (h : i < l.length) : rd_T49 l (i : Int) = l[i] := by simp [rd_T49, List.getD_eq_getElem?_getD, h]
theorem may_eq (r : S49) : ring_may.f r.f0 r.f1 r.f2 = some (decide (mayP r)) := by
  unfold ring_may.f root_Empty.f
  by_cases h1 : r.f0.size = 32
  · rw [if_pos (by omega)]
    by_cases h2 : r.f2 < 1
    · rw [if_pos h2]; congr 1; symm; rw [decide_eq_false_iff_not]; exact fun h => by have := h.2.1; omega
    · rw [if_neg h2]
      by_cases h3 : r.f2 > 2147483647
      · rw [if_pos h3]; congr 1; symm; rw [decide_eq_false_iff_not]; exact fun h => by have := h.2.2.1; omega
      · rw [if_neg h3, Option.bind_some]
        simp only [str_eq_iff]
        have e : (!(r.f0.toList == eH.toList)) = decide (r.f0 ≠ eH) := by
          rw [Bool.eq_iff_iff]; simp [toList_inj]
        rw [e]
        have g1 : 1 ≤ r.f2 := by omega
        have g2 : r.f2 ≤ 2147483647 := by omega
        by_cases h4 : r.f1 = 0
        · rw [if_pos h4]
          by_cases h5 : r.f0 = eH
          · rw [if_pos h5]; congr 1; symm; rw [decide_eq_true_iff]; exact ⟨h1, g1, g2, .inl ⟨h4, h5⟩⟩
          · rw [if_neg h5, if_neg (by omega)]; congr 1; symm; rw [decide_eq_false_iff_not]; rintro ⟨_, _, _, h | h⟩
            · exact h5 h.2
            · omega
        · rw [if_neg h4]
          by_cases h6 : r.f1 ≥ 2
          · rw [if_pos h6]
            by_cases h7 : r.f1 < 200
            · rw [if_pos h7]; congr 1; rw [decide_eq_decide]; constructor
              · intro h; exact ⟨h1, g1, g2, .inr ⟨h6, h7, h⟩⟩
              · rintro ⟨_, _, _, h | h⟩
                · omega
                · exact h.2.2
            · rw [if_neg h7]; congr 1; symm; rw [decide_eq_false_iff_not]; rintro ⟨_, _, _, h | h⟩ <;> omega
          · rw [if_neg h6]; congr 1; symm; rw [decide_eq_false_iff_not]; rintro ⟨_, _, _, h | h⟩ <;> omega
  · rw [if_neg (by omega)]; congr 1; symm; rw [decide_eq_false_iff_not]; exact fun h => h1 h.1
theorem rmay_j (k : Nat) (b : Bool) (r : S49) (hb : b = true → ¬ mayP r) (hc : b = false → r.f0.size = 32 ∧ 1 ≤ r.f2 ∧ r.f2 ≤ 2147483647) : umbelref21_May.j0 (k + 1) b r.f0 r.f1 r.f2 = some (decide (mayP r)) := by
  cases b with
  | true => rw [umbelref21_May.j0, if_pos rfl]; congr 1; symm; rw [decide_eq_false_iff_not]; exact hb rfl
  | false =>
    obtain ⟨h1, g1, g2⟩ := hc rfl
    rw [umbelref21_May.j0, if_neg (by decide)]
    unfold umbelref11_Empty.f umbelref20_Page.f
    simp only [Option.bind_some, str_eq_iff]
    have e : (r.f0.toList != eH.toList) = decide (r.f0 ≠ eH) := by
      rw [Bool.eq_iff_iff]; simp [toList_inj]
    rw [e]
    by_cases h4 : r.f1 = 0
    · rw [if_pos h4]
      by_cases h5 : r.f0 = eH
      · rw [if_pos h5]; congr 1; symm; rw [decide_eq_true_iff]; exact ⟨h1, g1, g2, .inl ⟨h4, h5⟩⟩
      · rw [if_neg h5, if_neg (by omega), Option.bind_some, if_neg (by decide)]; congr 1; symm; rw [decide_eq_false_iff_not]; rintro ⟨_, _, _, h | h⟩
        · exact h5 h.2
        · omega
    · rw [if_neg h4]
      by_cases h6 : r.f1 ≥ 2
      · rw [if_pos h6, Option.bind_some]
        by_cases h7 : r.f1 < 200
        · rw [if_pos (decide_eq_true h7)]; congr 1; rw [decide_eq_decide]; constructor
          · intro h; exact ⟨h1, g1, g2, .inr ⟨h6, h7, h⟩⟩
          · rintro ⟨_, _, _, h | h⟩
            · omega
            · exact h.2.2
        · rw [if_neg (by rw [decide_eq_true_iff]; exact h7)]; congr 1; symm; rw [decide_eq_false_iff_not]; rintro ⟨_, _, _, h | h⟩ <;> omega
      · rw [if_neg h6, Option.bind_some, if_neg (by decide)]; congr 1; symm; rw [decide_eq_false_iff_not]; rintro ⟨_, _, _, h | h⟩ <;> omega
theorem rmay_eq (k : Nat) (r : S49) : umbelref21_May.f (k + 1) r.f0 r.f1 r.f2 = some (decide (mayP r)) := by
  unfold umbelref21_May.f
  by_cases h1 : r.f0.size = 32
  · rw [if_pos (by omega)]
    by_cases h2 : r.f2 < 1
    · rw [if_pos h2]; exact rmay_j k true r (fun _ h => by have := h.2.1; omega) (fun h => by cases h)
    · rw [if_neg h2]
      exact rmay_j k _ r (fun h hm => by rw [decide_eq_true_iff] at h; have := hm.2.2.1; omega) (fun h => by rw [decide_eq_false_iff_not] at h; exact ⟨h1, by omega, by omega⟩)
  · rw [if_neg (by omega)]; exact rmay_j k true r (fun _ h => h1 h.1) (fun h => by cases h)
theorem all_l0 (l : List S49) (hl : l.length ≤ 3000) : ∀ m i : Nat, m + i = l.length → ∀ last : Int, ring_all.l0 (m + 1) l last l (l.length : Int) (i : Int) = some (decide (allF last (l.drop i) ∧ l.length ≤ 6))
  | 0, i, h, last => by
    rw [ring_all.l0, if_neg (by omega), List.drop_eq_nil_of_le (by omega)]
    congr 1; rw [decide_eq_decide]; constructor
    · intro h; exact ⟨trivial, by omega⟩
    · intro h; have := h.2; omega
  | m + 1, i, h, last => by
    have hi : i < l.length := by omega
    rw [ring_all.l0, if_pos (by omega), if_pos (by omega), if_pos (by omega), rd_at l i hi, may_eq, Option.bind_some, List.drop_eq_getElem_cons hi, show wrap64 ((i : Int) + 1) = ((i + 1 : Nat) : Int) from wr (by omega) (by omega)]
    by_cases h1 : mayP l[i]
    · rw [if_pos (decide_eq_true h1)]
      by_cases h2 : l[i].f2 ≤ last
      · rw [if_pos h2]; congr 1; symm; rw [decide_eq_false_iff_not]; rintro ⟨⟨_, h3, _⟩, _⟩; omega
      · rw [if_neg h2, all_l0 l hl m (i + 1) (by omega)]; congr 1; rw [decide_eq_decide]; constructor
        · rintro ⟨a, b⟩; exact ⟨⟨h1, by omega, a⟩, b⟩
        · rintro ⟨⟨_, _, a⟩, b⟩; exact ⟨a, b⟩
    · rw [if_neg (by rw [decide_eq_true_iff]; exact h1)]; congr 1; symm; rw [decide_eq_false_iff_not]; rintro ⟨⟨h3, _⟩, _⟩; exact h1 h3
theorem all_ev (l : List S49) (hl : l.length ≤ 3000) : Ev (fun k => ring_all.f k l) (decide (allP l)) := by
  refine Ev.of (ring_all.mono l) (k := l.length + 1) ?_
  unfold ring_all.f
  rw [show (0 : Int) = ((0 : Nat) : Int) from rfl, all_l0 l hl l.length 0 rfl]
  rfl
theorem flat_len (l : List S49) (h : ∀ r ∈ l, r.f0.size = 32) : (l.flatMap encO).length = 38 * l.length := by
  induction l with
  | nil => rfl
  | cons r l ih =>
    have h1 := ih (fun x hx => h x (by simp [hx]))
    have h2 := h r (by simp)
    simp only [List.flatMap_cons, List.length_append, List.length_cons, h1, encO, len_bytesOf, h2, List.length_nil]
    omega
theorem allF_may : ∀ (l : List S49) (last : Int), allF last l → ∀ r ∈ l, mayP r
  | [], _, _, r, h => by cases h
  | x :: l, last, h, r, hr => by
    rcases List.mem_cons.1 hr with rfl | hr
    · exact h.1
    · exact allF_may l x.f2 h.2.2 r hr
/-- What Encode hands back. -/
def encR (l : List S49) : ByteArray × Bool := if allP l then (strOfNums (encL l), true) else (⟨#[]⟩, false)
theorem one_str (pre : List Int) (r : S49) : strOfNums pre ++ (r.f0 ++ strOfNums [r.f1 / 256 % 256, r.f1 % 256, r.f2 / 16777216 % 256, r.f2 / 65536 % 256, r.f2 / 256 % 256, r.f2 % 256]) = strOfNums (pre ++ encO r) := by
  rw [str_app, encO, str_app, str_bytes]
theorem enc_l0 (l : List S49) (hl : l.length ≤ 6) (hm : ∀ r ∈ l, mayP r) : ∀ m i : Nat, m + i = l.length → ∀ pre : List Int, pre.length ≤ 1 + 38 * i → ring_Encode.l0 (m + 1) (strOfNums pre) l (l.length : Int) (i : Int) = some (strOfNums (pre ++ (l.drop i).flatMap encO), true)
  | 0, i, h, pre, hp => by
    rw [ring_Encode.l0, if_neg (by omega), List.drop_eq_nil_of_le (by omega)]; simp
  | m + 1, i, h, pre, hp => by
    have hi : i < l.length := by omega
    have hs := (hm l[i] (List.getElem_mem hi)).1
    have ho : (encO l[i]).length = 38 := by simp [encO, len_bytesOf, hs]
    rw [ring_Encode.l0, if_pos (by omega), if_pos (by omega), if_pos (by omega), rd_at l i hi, Option.bind_some, if_pos (by rw [str_size, hs]; simp), if_pos (by rw [ByteArray.size_append, str_size, str_size, hs]; simp; omega), one_str, show wrap64 ((i : Int) + 1) = ((i + 1 : Nat) : Int) from wr (by omega) (by omega),
      enc_l0 l hl hm m (i + 1) (by omega) (pre ++ encO l[i]) (by rw [List.length_append, ho]; omega), List.drop_eq_getElem_cons hi, List.flatMap_cons, List.append_assoc]
theorem enc_ev (l : List S49) (hl : l.length ≤ 3000) : Ev (fun k => ring_Encode.f k l) (encR l) := by
  unfold ring_Encode.f
  refine Ev.bind (all_ev l hl) ?_
  by_cases h : allP l
  · rw [encR, if_pos h]
    refine Ev.congr (f := fun k => ring_Encode.l0 k (strOfNums [(l.length : Int) % 256]) l (l.length : Int) 0) (fun k => by rw [if_pos (decide_eq_true h)]) ?_
    refine Ev.of (fun k => (ring_Encode.mono_l k) _ _ _ _) (k := l.length + 1) ?_
    have := enc_l0 l h.2 (allF_may l 0 h.1) l.length 0 rfl [(l.length : Int) % 256] (by simp)
    rw [show (0 : Int) = ((0 : Nat) : Int) from rfl, this]
    rfl
  · rw [encR, if_neg h]
    exact Ev.congr (fun k => by rw [if_neg (by rw [decide_eq_true_iff]; exact h)]) (Ev.now _)
end Go.Proofs.YtbphehijikdkjaaDoor.RngP
