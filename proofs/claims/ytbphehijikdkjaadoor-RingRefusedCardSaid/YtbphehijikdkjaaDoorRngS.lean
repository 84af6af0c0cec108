/-
  The reference's Decode, the roots side by side, the law's hash, and wakes.
-/
import Derived.Test.YtbphehijikdkjaaDoorRngQ
namespace Go.Proofs.YtbphehijikdkjaaDoor.RngS
open Go.RowKit Go.Proofs.YtbphehijikdkjaaDoor.PRng Go.Proofs.YtbphehijikdkjaaDoorW.PrintWords Go.Proofs.YtbphehijikdkjaaDoorW.PrintLast Go.Proofs.YtbphehijikdkjaaDoorW.PrintMore Go.Proofs.YtbphehijikdkjaaDoor.Str Go.Proofs.YtbphehijikdkjaaDoor.RngH Go.Proofs.YtbphehijikdkjaaDoor.RngP Go.Proofs.YtbphehijikdkjaaDoor.RngQ Go.Proofs.YtbphehijikdkjaaDoor.Dig
set_option linter.unusedVariables false
theorem or_n (n : Nat) (x y : Int) (hn : n = 8 ∨ n = 16 ∨ n = 24) (hx0 : 0 ≤ x) (hx : x % 2 ^ n = 0) (hx1 : x < 4294967296) (h0 : 0 ≤ y) (h1 : y < 2 ^ n) : Go.bits .or .i64 x y = x + y := by
  rcases hn with rfl | rfl | rfl
  · exact bits_join .i64 62 (by decide) (fun n h0 h1 => by rw [IntKind.wrap_i64]; omega) 8 x y hx0 (by omega) (by omega) h0 (by omega) (by omega)
  · exact bits_join .i64 62 (by decide) (fun n h0 h1 => by rw [IntKind.wrap_i64]; omega) 16 x y hx0 (by omega) (by omega) h0 (by omega) (by omega)
  · exact bits_join .i64 62 (by decide) (fun n h0 h1 => by rw [IntKind.wrap_i64]; omega) 24 x y hx0 (by omega) (by omega) h0 (by omega) (by omega)
theorem or2 (a b : Int) (ha : 0 ≤ a ∧ a < 256) (hb : 0 ≤ b ∧ b < 256) : Go.bits .or .i64 (wrap64 ((wrap64 a) * 256)) (wrap64 b) = ((de [a, b] : Nat) : Int) := by
  rw [wr (x := a) (by omega) (by omega), wr (x := b) (by omega) (by omega), wr (by omega) (by omega), or_n 8 _ _ (.inl rfl) (by omega) (by omega) (by omega) (by omega) (by omega), de2]
  omega
theorem or4 (a b c d : Int) (ha : 0 ≤ a ∧ a < 256) (hb : 0 ≤ b ∧ b < 256) (hc : 0 ≤ c ∧ c < 256) (hd : 0 ≤ d ∧ d < 256) : Go.bits .or .i64 (Go.bits .or .i64 (Go.bits .or .i64 (wrap64 ((wrap64 a) * 16777216)) (wrap64 ((wrap64 b) * 65536))) (wrap64 ((wrap64 c) * 256))) (wrap64 d) = ((de [a, b, c, d] : Nat) : Int) := by
  rw [wr (x := a) (by omega) (by omega), wr (x := b) (by omega) (by omega), wr (x := c) (by omega) (by omega), wr (x := d) (by omega) (by omega), wr (x := a * _) (by omega) (by omega), wr (x := b * _) (by omega) (by omega), wr (x := c * _) (by omega) (by omega),
    or_n 24 (a * 16777216) (b * 65536) (.inr (.inr rfl)) (by omega) (by omega) (by omega) (by omega) (by omega), or_n 16 (a * 16777216 + b * 65536) (c * 256) (.inr (.inl rfl)) (by omega) (by omega) (by omega) (by omega) (by omega), or_n 8 (a * 16777216 + b * 65536 + c * 256) d (.inl rfl) (by omega) (by omega) (by omega) (by omega) (by omega), de4]
  omega
/-- What the reference's Decode says of these roots. -/
def rdecF (s : ByteArray) (l : List S49) : List S49 × Bool := if (encR l).1 = s then (l, true) else ([], false)
theorem rdec_l0 (s : ByteArray) (N : Nat) (hs : s.size = 1 + 38 * N) (hN : N ≤ 300) : ∀ n i : Nat, i + n = N → ∀ acc : List S49, acc.length = i → Ev (fun k => umbelref21_Decode.l0 k s acc ((1 + 38 * i : Nat) : Int)) (rdecF s (acc ++ decB n ((bytesOf s).drop (1 + 38 * i))))
  | 0, i, h, acc, ha => by
    refine Ev.step (f := fun k => (umbelref21_Encode.f k acc).bind fun t203 => (if t203.toList = s.toList then (some (acc, true)) else (some (([] : List (S49)), false)))) (fun k => by rw [umbelref21_Decode.l0, if_neg (by omega)]) ?_
    refine Ev.bind (renc_ev acc) ?_
    rw [decB, List.append_nil, rdecF]
    by_cases h : (encR acc).1 = s
    · rw [if_pos h]; exact Ev.congr (fun k => by rw [if_pos ((toList_inj _ _).2 h)]) (Ev.now _)
    · rw [if_neg h]; exact Ev.congr (fun k => by rw [if_neg (fun q => h ((toList_inj _ _).1 q))]) (Ev.now _)
  | n + 1, i, h, acc, ha => by
    have w1 : wrap64 (((1 + 38 * i : Nat) : Int) + 32) = ((1 + 38 * i + 32 : Nat) : Int) := wr (by omega) (by omega)
    have w2 : wrap64 (((1 + 38 * i : Nat) : Int) + 38) = ((1 + 38 * (i + 1) : Nat) : Int) := by rw [wr (by omega) (by omega)]; omega
    have hb : (bytesOf s).length = 1 + 38 * N := by rw [len_bytesOf, hs]
    have hc : (((bytesOf s).drop (1 + 38 * i)).take 38).length = 38 := by rw [List.length_take, List.length_drop, hb]; omega
    have hR : R (((bytesOf s).drop (1 + 38 * i)).take 38) := R_take (R_drop (R_bytesOf s) _) _
    obtain ⟨u, a, b, p, q, r, t, hu, hsp⟩ := split38 _ hc
    have hx : bytesOf (s.extract (1 + 38 * i + 32) (1 + 38 * (i + 1))) = [a, b, p, q, r, t] := by
      rw [bytes_extract, List.drop_take, show 1 + 38 * (i + 1) - (1 + 38 * i + 32) = 6 by omega, ← List.drop_drop, show 6 = 38 - 32 from rfl, ← List.drop_take, hsp, ← hu, List.drop_left]
    have hx0 : s.extract (1 + 38 * i) (1 + 38 * i + 32) = strOfNums u := by
      rw [← str_bytes (s.extract _ _), bytes_extract, List.drop_take, show 1 + 38 * i + 32 - (1 + 38 * i) = 32 by omega, show ((bytesOf s).drop (1 + 38 * i)).take 32 = (((bytesOf s).drop (1 + 38 * i)).take 38).take 32 by rw [List.take_take]; rfl, hsp, ← hu, List.take_left]
    have hz : (s.extract (1 + 38 * i + 32) (1 + 38 * (i + 1))).size = 6 := by rw [← len_bytesOf, hx]; rfl
    have g : ∀ x ∈ [a, b, p, q, r, t], 0 ≤ x ∧ x < 256 := fun x hx => hR x (by rw [hsp, List.mem_append]; exact .inr hx)
    have hbt : ∀ j : Int, bt (s.extract (1 + 38 * i + 32) (1 + 38 * (i + 1))) j = rd [a, b, p, q, r, t] j := fun j => by rw [bt_rd, hx]
    refine Ev.step (f := fun k => umbelref21_Decode.l0 k s (acc ++ [oneB (((bytesOf s).drop (1 + 38 * i)).take 38)]) ((1 + 38 * (i + 1) : Nat) : Int)) (fun k => ?_) ?_
    · rw [umbelref21_Decode.l0, w1, w2]
      simp only [Int.toNat_natCast, hz, hx0, hbt]
      rw [if_pos (by omega), if_pos (by omega), if_pos (by omega), if_pos (by omega), if_pos (by omega), if_pos (by omega), if_pos (by omega), if_pos (by decide), if_pos (by decide), if_pos (by decide), if_pos (by decide), if_pos (by decide), if_pos (by decide), if_pos (by omega)]
      rw [show rd [a, b, p, q, r, t] 0 = a from rfl, show rd [a, b, p, q, r, t] 1 = b from rfl, show rd [a, b, p, q, r, t] 2 = p from rfl, show rd [a, b, p, q, r, t] 3 = q from rfl, show rd [a, b, p, q, r, t] 4 = r from rfl, show rd [a, b, p, q, r, t] 5 = t from rfl,
        or2 a b (g a (by simp)) (g b (by simp)), or4 p q r t (g p (by simp)) (g q (by simp)) (g r (by simp)) (g t (by simp)), hsp, oneB_at u a b p q r t hu, de2, de4]
    · have ih := rdec_l0 s N hs hN n (i + 1) (by omega) (acc ++ [oneB (((bytesOf s).drop (1 + 38 * i)).take 38)]) (by simp [ha])
      rw [List.append_assoc] at ih
      rw [decB, List.drop_drop, show 1 + 38 * i + 38 = 1 + 38 * (i + 1) by omega]
      exact ih
theorem R_cons_at (s : ByteArray) (h : s.size ≠ 0) : bytesOf s = bt s 0 :: (bytesOf s).drop 1 := by
  have := drop_bytes s 0 (by omega)
  rwa [List.drop_zero] at this
theorem encR_bytes {s : ByteArray} (h : fits s) : encL (decB (bt s 0).toNat ((bytesOf s).drop 1)) = bytesOf s := by
  have hb := bt_range s 0
  have h2 := h.2
  rw [encL, decB_len, enc_decB _ _ (by rw [List.length_drop, len_bytesOf]; omega) (R_drop (R_bytesOf s) _), R_cons_at s h.1, List.drop_one, List.tail_cons]
  congr 1
  omega
theorem rdecF_eq {s : ByteArray} (h : fits s) : rdecF s (decB (bt s 0).toNat ((bytesOf s).drop 1)) = decF' (decB (bt s 0).toNat ((bytesOf s).drop 1)) := by
  unfold rdecF decF' encR
  by_cases ha : allP (decB (bt s 0).toNat ((bytesOf s).drop 1))
  · rw [if_pos ha, encR_bytes h, if_pos ha, if_pos (str_bytes s)]
  · rw [if_neg ha, if_neg ha, if_neg (fun q => h.1 (by rw [← q]; rfl))]
theorem rdec_ev (s : ByteArray) : Ev (fun k => umbelref21_Decode.f k s) (decR s) := by
  unfold umbelref21_Decode.f
  by_cases h0 : s.size = 0
  · have hr : decR s = ([], false) := by rw [decR, if_neg (fun h => h.1 h0)]
    rw [hr]
    refine Ev.congr (f := fun k => umbelref21_Decode.j0 k s true) (fun k => by rw [if_pos (by omega)]) ?_
    exact Ev.step (f := fun _ => some (([] : List S49), false)) (fun k => by rw [umbelref21_Decode.j0, if_pos rfl]) (Ev.now _)
  · refine Ev.congr (f := fun k => umbelref21_Decode.j0 k s (!decide (fits s))) (fun k => by rw [if_neg (by omega), if_pos (by omega), fit_ne s h0]) ?_
    by_cases h : fits s
    · have hr : decR s = rdecF s (decB (bt s 0).toNat ((bytesOf s).drop 1)) := by rw [decR, if_pos h, rdecF_eq h]
      rw [hr]
      have hb := bt_range s 0
      have h2 := h.2
      refine Ev.step (f := fun k => umbelref21_Decode.l0 k s ([] : List S49) 1) (fun k => by rw [umbelref21_Decode.j0, if_neg (by simp [h])]) ?_
      have := rdec_l0 s (bt s 0).toNat (by omega) (by omega) (bt s 0).toNat 0 (by omega) [] rfl
      exact this
    · have hr : decR s = ([], false) := by rw [decR, if_neg h]
      rw [hr]
      exact Ev.step (f := fun _ => some (([] : List S49), false)) (fun k => by rw [umbelref21_Decode.j0, if_pos (by simp [h])]) (Ev.now _)
/-- Roots are the same as themselves. -/
theorem same_l0 (l : List S49) (hl : l.length ≤ 3000) : ∀ m i : Nat, m + i = l.length → umbelkeep_Roots.l0 (m + 1) l l (i : Int) = some true
  | 0, i, h => by rw [umbelkeep_Roots.l0, if_neg (by omega)]
  | m + 1, i, h => by
    rw [umbelkeep_Roots.l0, if_pos (by omega), if_pos (by omega), if_pos (by omega), if_neg (by simp), show wrap64 ((i : Int) + 1) = ((i + 1 : Nat) : Int) from wr (by omega) (by omega)]
    exact same_l0 l hl m (i + 1) (by omega)
theorem same_ev (l : List S49) (hl : l.length ≤ 3000) : Ev (fun k => umbelkeep_Roots.f k l l) true := by
  refine Ev.of (umbelkeep_Roots.mono l l) (k := l.length + 1) ?_
  unfold umbelkeep_Roots.f
  rw [if_pos rfl]
  exact same_l0 l hl l.length 0 rfl
/-- Long: it stops, and what is not long is short. -/
theorem long_l0 (l : List S49) (hl : l.length < 4398046511104) : ∀ m i : Nat, m + i = l.length → ∀ at' : Int, (i : Int) ≤ at' → at' ≤ 4100 → ∃ b, umbellaw21_Long.l0 (m + 1) l at' (i : Int) = some b ∧ (b = false → l.length ≤ 2000)
  | 0, i, h, a, h1, h2 => by
    rw [umbellaw21_Long.l0, if_neg (by omega)]
    exact ⟨_, rfl, fun q => by rw [decide_eq_false_iff_not] at q; omega⟩
  | m + 1, i, h, a, h1, h2 => by
    rw [umbellaw21_Long.l0, if_pos (by omega)]
    by_cases ha : a ≤ 2000
    · have hm : 0 ≤ mn ((rd_T49 l (i : Int)).f0.size : Int) 2000 ∧ mn ((rd_T49 l (i : Int)).f0.size : Int) 2000 ≤ 2000 := by unfold mn; split <;> omega
      rw [if_pos ha, if_pos (by omega), show wrap64 ((i : Int) + 1) = ((i + 1 : Nat) : Int) from wr (by omega) (by omega), wr (x := a + _) (by omega) (by omega)]
      exact long_l0 l hl m (i + 1) (by omega) _ (by omega) (by omega)
    · rw [if_neg ha]
      exact ⟨_, rfl, fun q => by rw [decide_eq_false_iff_not] at q; omega⟩
theorem long_ev (l : List S49) (hl : l.length < 4398046511104) : ∃ b, Ev (fun k => umbellaw21_Long.f k l) b ∧ (b = false → l.length ≤ 2000) := by
  obtain ⟨b, h, hb⟩ := long_l0 l hl l.length 0 rfl 0 (by omega) (by omega)
  exact ⟨b, Ev.of (umbellaw21_Long.mono l) (k := l.length + 1) h, hb⟩
/-- The law's hash: 32 like bytes. -/
def hB (v : Int) : ByteArray := strOfNums (List.replicate 32 v)
theorem hB_size (v : Int) : (hB v).size = 32 := by rw [hB, str_size]; simp
theorem hash_l0 (v : Int) : ∀ m i : Nat, m + i = 32 → umbellaw09_Hash.l0 (m + 1) v (List.replicate i v ++ List.replicate m 0) (i : Int) = some (hB v)
  | 0, i, h => by
    have hi : i = 32 := by omega
    subst hi
    rw [umbellaw09_Hash.l0, if_neg (by simp)]
    simp [hB]
  | m + 1, i, h => by
    rw [umbellaw09_Hash.l0, if_pos (by simp; omega), if_pos (by omega), Int.toNat_natCast, show wrap64 ((i : Int) + 1) = ((i + 1 : Nat) : Int) from wr (by omega) (by omega),
      show (List.replicate i v ++ List.replicate (m + 1) (0 : Int)).set i v = List.replicate (i + 1) v ++ List.replicate m 0 by
        rw [List.set_append_right _ _ (by simp), List.length_replicate, Nat.sub_self, List.replicate_succ, List.set_cons_zero, List.replicate_succ', List.append_assoc]; rfl]
    exact hash_l0 v m (i + 1) (by omega)
theorem hash_ev (v : Int) : Ev (fun k => umbellaw09_Hash.f k v) (hB v) := by
  refine Ev.of (umbellaw09_Hash.mono v) (k := 33) ?_
  unfold umbellaw09_Hash.f
  rw [if_pos (by decide)]
  exact hash_l0 v 32 0 rfl
end Go.Proofs.YtbphehijikdkjaaDoor.RngS
