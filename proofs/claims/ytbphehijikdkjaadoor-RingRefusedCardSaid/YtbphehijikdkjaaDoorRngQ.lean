/-
  The reference's Encode, both Decodes, and wakes, in plain lists.
-/
import Derived.Test.YtbphehijikdkjaaDoorRngP
namespace Go.Proofs.YtbphehijikdkjaaDoor.RngQ
open Go.RowKit Go.Proofs.YtbphehijikdkjaaDoor.PRng Go.Proofs.YtbphehijikdkjaaDoorW.PrintWords Go.Proofs.YtbphehijikdkjaaDoorW.PrintLast Go.Proofs.YtbphehijikdkjaaDoorW.PrintMore Go.Proofs.YtbphehijikdkjaaDoor.Str Go.Proofs.YtbphehijikdkjaaDoor.RngH Go.Proofs.YtbphehijikdkjaaDoor.RngP Go.Proofs.YtbphehijikdkjaaDoor.Dig
set_option linter.unusedVariables false
/-- The generation ahead of a place. -/
def prevG (l : List S49) (i : Nat) : Int := if i = 0 then 0 else (l.getD (i - 1) z49).f2
theorem renc_l0 (l : List S49) (hl : l.length ≤ 6) : ∀ m i : Nat, m + i = l.length → ∀ pre : List Int, pre.length ≤ 1 + 38 * i → umbelref21_Encode.l0 (m + 2) l (strOfNums pre) (i : Int) = some (if allF (prevG l i) (l.drop i) then strOfNums (pre ++ (l.drop i).flatMap encO) else ⟨#[]⟩)
  | 0, i, h, pre, hp => by
    rw [umbelref21_Encode.l0, if_neg (by omega), List.drop_eq_nil_of_le (by omega), if_pos (show allF (prevG l i) [] from trivial)]; simp
  | m + 1, i, h, pre, hp => by
    have hi : i < l.length := by omega
    have hd := List.drop_eq_getElem_cons hi
    rw [umbelref21_Encode.l0, if_pos (by omega), if_pos (by omega), rd_at l i hi, rmay_eq, Option.bind_some]
    by_cases h1 : mayP l[i]
    · rw [if_pos (decide_eq_true h1)]
      have hs := h1.1
      have ho : (encO l[i]).length = 38 := by simp [encO, len_bytesOf, hs]
      have hw : wrap64 ((i : Int) + 1) = ((i + 1 : Nat) : Int) := wr (by omega) (by omega)
      have e1 : (l[i].f0.size + (strOfNums [l[i].f1 / 256 % 256, l[i].f1 % 256, l[i].f2 / 16777216 % 256, l[i].f2 / 65536 % 256, l[i].f2 / 256 % 256, l[i].f2 % 256]).size ≤ 9223372036854775807) := by rw [str_size, hs]; simp
      have e2 : ((strOfNums pre).size + (l[i].f0 ++ strOfNums [l[i].f1 / 256 % 256, l[i].f1 % 256, l[i].f2 / 16777216 % 256, l[i].f2 / 65536 % 256, l[i].f2 / 256 % 256, l[i].f2 % 256]).size ≤ 9223372036854775807) := by rw [ByteArray.size_append, str_size, str_size, hs]; simp; omega
      have ih := renc_l0 l hl m (i + 1) (by omega) (pre ++ encO l[i]) (by rw [List.length_append, ho]; omega)
      have hpv : prevG l (i + 1) = l[i].f2 := by simp [prevG, List.getD_eq_getElem?_getD, hi]
      rw [hpv] at ih
      have fin : ∀ b : Prop, ∀ _ : Decidable b, (b ↔ prevG l i < l[i].f2) → b → umbelref21_Encode.l0 (m + 2) l (strOfNums (pre ++ encO l[i])) ((i + 1 : Nat) : Int) = some (if allF (prevG l i) (l.drop i) then strOfNums (pre ++ (l.drop i).flatMap encO) else ⟨#[]⟩) := by
        intro b _ hb hbt
        rw [ih, hd]
        congr 1
        by_cases ha : allF l[i].f2 (l.drop (i + 1))
        · rw [if_pos ha, if_pos ⟨h1, hb.1 hbt, ha⟩, List.flatMap_cons, List.append_assoc]
        · rw [if_neg ha, if_neg (fun h => ha h.2.2)]
      by_cases h0 : i = 0
      · subst h0
        rw [if_neg (by omega), Option.bind_some, if_pos e1, if_pos e2, one_str, hw]
        exact fin True inferInstance ⟨fun _ => by have := h1.2.1; simp only [prevG, if_true]; omega, fun _ => trivial⟩ trivial
      · have hw2 : wrap64 ((i : Int) - 1) = ((i - 1 : Nat) : Int) := by unfold wrap64; omega
        have hi1 : i - 1 < l.length := by omega
        have hp2 : prevG l i = (rd_T49 l ((i - 1 : Nat) : Int)).f2 := by rw [prevG, if_neg h0]; simp [rd_T49]
        rw [if_pos (by omega), hw2, if_pos (by omega), if_pos (by omega)]
        by_cases h2 : l[i].f2 ≤ (rd_T49 l ((i - 1 : Nat) : Int)).f2
        · rw [if_pos h2, hd, if_neg (by rintro ⟨_, h3, _⟩; rw [hp2] at h3; omega)]
        · rw [if_neg h2, Option.bind_some, if_pos e1, if_pos e2, one_str, hw]
          exact fin (¬ l[i].f2 ≤ (rd_T49 l ((i - 1 : Nat) : Int)).f2) inferInstance (by rw [hp2]; omega) h2
    · rw [if_neg (by rw [decide_eq_true_iff]; exact h1), hd, if_neg (fun h => h1 h.1)]
/-- What the reference's Encode hands back. -/
theorem renc_ev (l : List S49) : Ev (fun k => umbelref21_Encode.f k l) (encR l).1 := by
  unfold umbelref21_Encode.f
  by_cases h : l.length ≤ 6
  · refine Ev.congr (f := fun k => umbelref21_Encode.l0 k l (strOfNums [(l.length : Int) % 256]) 0) (fun k => by rw [if_neg (by omega)]) ?_
    refine Ev.of (fun k => (umbelref21_Encode.mono_l k) _ _ _) (k := l.length + 2) ?_
    have := renc_l0 l h l.length 0 rfl [(l.length : Int) % 256] (by simp)
    rw [show (0 : Int) = ((0 : Nat) : Int) from rfl, this]
    congr 1
    rw [encR]
    by_cases ha : allF 0 l
    · rw [if_pos (show allP l from ⟨ha, h⟩), if_pos (show allF (prevG l 0) (l.drop 0) from ha)]; rfl
    · rw [if_neg (show ¬ allP l from fun q => ha q.1), if_neg (show ¬ allF (prevG l 0) (l.drop 0) from ha)]
  · have e : encR l = (⟨#[]⟩, false) := by rw [encR, if_neg (fun q => h q.2)]
    rw [e]
    exact Ev.congr (fun k => by rw [if_pos (by omega)]) (Ev.now _)
/-- The root of 38 bytes. -/
def oneB (b : List Int) : S49 := ⟨strOfNums (b.take 32), ((de ((b.drop 32).take 2) : Nat) : Int), ((de ((b.drop 34).take 4) : Nat) : Int)⟩
/-- The roots of bytes, n of them. -/
def decB : Nat → List Int → List S49
  | 0, _ => []
  | n + 1, b => oneB (b.take 38) :: decB n (b.drop 38)
theorem decB_len : ∀ n b, (decB n b).length = n
  | 0, _ => rfl
  | n + 1, b => by rw [decB, List.length_cons, decB_len n]
/-- What Decode hands back of these roots. -/
def decF' (l : List S49) : List S49 × Bool := if allP l then (l, true) else ([], false)
theorem one_eq (s : ByteArray) (h : 38 ≤ s.size) : ring_one.f (s.extract 0 38) = some ((oneB ((bytesOf s).take 38)).f0, (oneB ((bytesOf s).take 38)).f1, (oneB ((bytesOf s).take 38)).f2) := by
  have hz : (s.extract 0 38).size = 38 := by rw [ByteArray.size_extract]; omega
  have hb : bytesOf (s.extract 0 38) = (bytesOf s).take 38 := by rw [bytes_extract]; rfl
  unfold ring_one.f oneB ring_numB
  rw [if_pos hz]
  simp only [bytes_extract, hb]
  have e0 : (s.extract 0 38).extract 0 32 = strOfNums (((bytesOf s).take 38).take 32) := by
    apply bytes_inj
    rw [bytes_extract, hb, bytes_str _ (R_take (R_take (R_bytesOf s) _) _)]; rfl
  rw [e0]
  congr 3
  · congr 2; rw [List.drop_take]
  · congr 2; rw [List.drop_take]
theorem dec_l0 : ∀ (n : Nat) (s : ByteArray) (acc : List S49), s.size = 38 * n → acc.length + n ≤ 3000 → Ev (fun k => ring_Decode.l0 k s acc) (decF' (acc ++ decB n (bytesOf s)))
  | 0, s, acc, hs, hl => by
    have he : s.toList = [] := by rw [toList_nil, ← List.length_eq_zero_iff, len_bytesOf]; omega
    refine Ev.step (f := fun k => (ring_all.f k acc).bind fun t128 => (if t128 = true then (some (acc, true)) else (some (([] : List S49), false)))) (fun k => by rw [ring_Decode.l0, if_pos he]) ?_
    refine Ev.bind (all_ev acc (by omega)) ?_
    rw [decB, List.append_nil, decF']
    by_cases h : allP acc
    · rw [if_pos h]; exact Ev.congr (fun k => by rw [if_pos (decide_eq_true h)]) (Ev.now _)
    · rw [if_neg h]; exact Ev.congr (fun k => by rw [if_neg (by rw [decide_eq_true_iff]; exact h)]) (Ev.now _)
  | n + 1, s, acc, hs, hl => by
    have he : ¬ s.toList = [] := by rw [toList_nil, ← List.length_eq_zero_iff, len_bytesOf]; omega
    refine Ev.step (f := fun k => ring_Decode.l0 k (s.extract 38 s.size) (acc ++ [oneB ((bytesOf s).take 38)])) (fun k => by
      rw [ring_Decode.l0, if_neg he, if_pos (by decide), if_pos (by omega), one_eq s (by omega), Option.bind_some, if_pos (by omega)]) ?_
    have hb : bytesOf (s.extract 38 s.size) = (bytesOf s).drop 38 := by rw [bytes_extract, List.take_of_length_le (by rw [len_bytesOf]; exact Nat.le_refl _)]
    have ih := dec_l0 n (s.extract 38 s.size) (acc ++ [oneB ((bytesOf s).take 38)]) (by rw [ByteArray.size_extract]; omega) (by simp; omega)
    rw [hb, List.append_assoc] at ih
    exact ih
/-- How many roots bytes tell, if they are as long as they tell. -/
def fits (s : ByteArray) : Prop := s.size ≠ 0 ∧ (s.size : Int) = 1 + 38 * bt s 0
instance (s : ByteArray) : Decidable (fits s) := by unfold fits; infer_instance
def decR (s : ByteArray) : List S49 × Bool := if fits s then decF' (decB (bt s 0).toNat ((bytesOf s).drop 1)) else ([], false)
theorem fit_ne (s : ByteArray) (h : s.size ≠ 0) : ((s.size : Int) != (wrap64 (1 + (wrap64 (38 * (wrap64 (bt s 0))))))) = !decide (fits s) := by
  have hb := bt_range s 0
  have w1 : wrap64 (bt s 0) = bt s 0 := by unfold wrap64; omega
  have w2 : wrap64 (38 * bt s 0) = 38 * bt s 0 := by unfold wrap64; omega
  have w3 : wrap64 (1 + 38 * bt s 0) = 1 + 38 * bt s 0 := by unfold wrap64; omega
  rw [w1, w2, w3, Bool.eq_iff_iff]
  simp [fits, h]
theorem dec_ev (s : ByteArray) : Ev (fun k => ring_Decode.f k s) (decR s) := by
  unfold ring_Decode.f
  by_cases h0 : s.size = 0
  · have he : s.toList = [] := by rw [toList_nil, ← List.length_eq_zero_iff, len_bytesOf]; exact h0
    have hr : decR s = ([], false) := by rw [decR, if_neg (fun h => h.1 h0)]
    rw [hr]
    refine Ev.congr (f := fun k => ring_Decode.j0 k s true) (fun k => by rw [if_pos he]) ?_
    exact Ev.step (f := fun _ => some (([] : List S49), false)) (fun k => by rw [ring_Decode.j0, if_pos rfl]) (Ev.now _)
  · have he : ¬ s.toList = [] := by rw [toList_nil, ← List.length_eq_zero_iff, len_bytesOf]; exact h0
    refine Ev.congr (f := fun k => ring_Decode.j0 k s (!decide (fits s))) (fun k => by rw [if_neg he, if_pos (by omega), fit_ne s h0]) ?_
    by_cases h : fits s
    · have hr : decR s = decF' (decB (bt s 0).toNat ((bytesOf s).drop 1)) := by rw [decR, if_pos h]
      rw [hr]
      have hb := bt_range s 0
      have h2 := h.2
      refine Ev.step (f := fun k => ring_Decode.l0 k (s.extract 1 s.size) ([] : List S49)) (fun k => by rw [ring_Decode.j0, if_neg (by simp [h]), if_pos (by omega)]) ?_
      have hb1 : bytesOf (s.extract 1 s.size) = (bytesOf s).drop 1 := by rw [bytes_extract, List.take_of_length_le (by rw [len_bytesOf]; exact Nat.le_refl _)]
      have := dec_l0 (bt s 0).toNat (s.extract 1 s.size) [] (by rw [ByteArray.size_extract]; omega) (by simp; omega)
      rw [hb1] at this
      exact this
    · have hr : decR s = ([], false) := by rw [decR, if_neg h]
      rw [hr]
      exact Ev.step (f := fun _ => some (([] : List S49), false)) (fun k => by rw [ring_Decode.j0, if_pos (by simp [h])]) (Ev.now _)
theorem de2 (a b : Int) : de [a, b] = a.toNat * 256 + b.toNat := by simp [de]
theorem de4 (a b c d : Int) : de [a, b, c, d] = ((a.toNat * 256 + b.toNat) * 256 + c.toNat) * 256 + d.toNat := by simp [de]
theorem split38 (c : List Int) (h : c.length = 38) : ∃ (u : List Int) (a b p q r s : Int), u.length = 32 ∧ c = u ++ [a, b, p, q, r, s] := by
  have h1 : (c.drop 32).length = 6 := by rw [List.length_drop]; omega
  match hd : c.drop 32, h1 with
  | [a, b, p, q, r, s], _ => exact ⟨c.take 32, a, b, p, q, r, s, by rw [List.length_take]; omega, by rw [← hd, List.take_append_drop]⟩
theorem oneB_at (u : List Int) (a b p q r s : Int) (h : u.length = 32) : oneB (u ++ [a, b, p, q, r, s]) = ⟨strOfNums u, ((a.toNat * 256 + b.toNat : Nat) : Int), ((((p.toNat * 256 + q.toNat) * 256 + r.toNat) * 256 + s.toNat : Nat) : Int)⟩ := by
  have t1 : (u ++ [a, b, p, q, r, s]).take 32 = u := by rw [← h, List.take_left]
  have t2 : (u ++ [a, b, p, q, r, s]).drop 32 = [a, b, p, q, r, s] := by rw [← h, List.drop_left]
  have t3 : (u ++ [a, b, p, q, r, s]).drop 34 = [p, q, r, s] := by rw [show 34 = 32 + 2 from rfl, ← List.drop_drop, t2]; rfl
  unfold oneB
  rw [t1, t2, t3]
  simp only [List.take_succ_cons, List.take_zero, de2, de4]
theorem enc_one (c : List Int) (h : c.length = 38) (hR : R c) : encO (oneB c) = c := by
  obtain ⟨u, a, b, p, q, r, s, hu, rfl⟩ := split38 c h
  have g : ∀ x ∈ [a, b, p, q, r, s], 0 ≤ x ∧ x < 256 := fun x hx => hR x (by simp only [List.mem_append]; exact .inr hx)
  have ga := g a (by simp); have gb := g b (by simp); have gp := g p (by simp); have gq := g q (by simp); have gr := g r (by simp); have gs := g s (by simp)
  rw [oneB_at u a b p q r s hu, encO]
  simp only
  rw [bytes_str u (fun x hx => hR x (by simp only [List.mem_append]; exact .inl hx))]
  congr 1
  obtain ⟨a, rfl⟩ := Int.eq_ofNat_of_zero_le ga.1
  obtain ⟨b, rfl⟩ := Int.eq_ofNat_of_zero_le gb.1
  obtain ⟨p, rfl⟩ := Int.eq_ofNat_of_zero_le gp.1
  obtain ⟨q, rfl⟩ := Int.eq_ofNat_of_zero_le gq.1
  obtain ⟨r, rfl⟩ := Int.eq_ofNat_of_zero_le gr.1
  obtain ⟨s, rfl⟩ := Int.eq_ofNat_of_zero_le gs.1
  simp only [Int.toNat_natCast]
  clear g hR hu h
  congr 1
  · omega
  congr 1
  · omega
  congr 1
  · omega
  congr 1
  · omega
  congr 1
  · omega
  congr 1
  omega
theorem enc_decB : ∀ (n : Nat) (b : List Int), b.length = 38 * n → R b → (decB n b).flatMap encO = b
  | 0, b, h, _ => by rw [List.length_eq_zero_iff.1 (by omega : b.length = 0)]; rfl
  | n + 1, b, h, hR => by
    rw [decB, List.flatMap_cons, enc_one _ (by rw [List.length_take]; omega) (R_take hR _), enc_decB n (b.drop 38) (by rw [List.length_drop]; omega) (R_drop hR _), List.take_append_drop]
theorem dec_one (r : S49) (h : mayP r) : oneB (encO r) = r := by
  obtain ⟨h1, h2, h3, h4⟩ := h
  have hp : 0 ≤ r.f1 ∧ r.f1 < 200 := by rcases h4 with h | h <;> omega
  rw [encO, oneB_at _ _ _ _ _ _ _ (by rw [len_bytesOf]; exact h1), str_bytes]
  obtain ⟨x, y, z⟩ := r
  simp only at *
  congr 1 <;> omega
theorem dec_encL : ∀ (l : List S49), (∀ r ∈ l, mayP r) → decB l.length (l.flatMap encO) = l
  | [], _ => rfl
  | r :: l, h => by
    have ho : (encO r).length = 38 := by simp [encO, len_bytesOf, (h r (by simp)).1]
    rw [List.length_cons, decB, List.flatMap_cons, ← ho, List.take_left, List.drop_left, dec_one r (h r (by simp)), dec_encL l (fun x hx => h x (by simp [hx]))]
end Go.Proofs.YtbphehijikdkjaaDoor.RngQ
