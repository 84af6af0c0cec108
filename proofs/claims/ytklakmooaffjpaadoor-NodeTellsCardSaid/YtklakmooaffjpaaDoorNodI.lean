import Derived.Test.YtklakmooaffjpaaDoorNibP
import Derived.Test.YtklakmooaffjpaaDoorPNodx8
import Derived.Test.YtklakmooaffjpaaDoorNodR
section
/-
  What the nodes' functions compute, in plain lists: may an Item be, and its text.
-/
namespace Go.Proofs.YtklakmooaffjpaaDoor.NodP
open Go.RowKit Go.Proofs.YtklakmooaffjpaaDoorW.PrintWords Go.Proofs.YtklakmooaffjpaaDoorW.PrintLast Go.Proofs.YtklakmooaffjpaaDoorW.PrintMore Go.Proofs.YtklakmooaffjpaaDoor.PNod Go.Proofs.YtklakmooaffjpaaDoor.NibP Go.Proofs.YtklakmooaffjpaaDoor.NodO Go.Proofs.YtklakmooaffjpaaDoor.NodH
set_option linter.unusedVariables false
/-- An Item. -/
structure It where
  k : Int
  p : ByteArray
  h : Bool
  v : ByteArray
  m : Int
  l : List ByteArray
/-- May an Item be? -/
def goodP (i : It) : Prop := (∀ x ∈ i.l, x.size = 32) ∧ i.v.size ≤ 16 ∧ (i.h = true ∨ i.v.toList = ([] : List UInt8)) ∧
  ((i.k = 1 ∧ goodL (bytesOf i.p) = true ∧ i.h = true ∧ i.m = 0 ∧ i.l.length = 0) ∨
   (i.k = 2 ∧ goodL (bytesOf i.p) = true ∧ ¬ i.p.toList = ([] : List UInt8) ∧ i.h = false ∧ i.m = 1 ∧ i.l.length = 1) ∨
   (i.k = 3 ∧ i.p.toList = ([] : List UInt8) ∧ 0 ≤ i.m ∧ i.m < 65536 ∧ pop 16 i.m.toNat = i.l.length ∧ (1 < i.l.length ∨ i.h = true ∧ 0 < i.l.length)))
instance (i : It) : Decidable (goodP i) := by unfold goodP; infer_instance
theorem any32 (l : List ByteArray) : (l.any fun x => (x.size : Int) != 32) = false ↔ ∀ x ∈ l, x.size = 32 := by
  rw [List.any_eq_false]
  constructor
  · intro h x hx
    have := h x hx
    simp at this
    omega
  · intro h x hx
    simp [h x hx]
theorem hash_iff (n : Nat) (l : List ByteArray) : hashR n l = true ↔ pop 16 n = l.length ∧ ∀ x ∈ l, x.size = 32 := by
  unfold hashR
  rw [Bool.and_eq_true, decide_eq_true_iff, Bool.not_eq_true', any32]
theorem nil_good : goodL [] = true := by decide
theorem j0_true (k : Nat) (a : Int) (b : ByteArray) (c : Bool) (d : ByteArray) (e : Int) (l : List ByteArray) : node_Good.j0 (k + 1) true a b c d e l = some false := by
  rw [node_Good.j0, if_pos rfl]
theorem pop0 : pop 16 0 = 0 := by decide
theorem pop1 : pop 16 1 = 1 := by decide
set_option maxHeartbeats 4000000 in
theorem good_f (i : It) (hp : i.p.size ≤ 1000000) (k : Nat) (hk : i.p.size + 1 < k) : node_Good.f k i.k i.p i.h i.v i.m i.l = some (decide (goodP i)) := by
  obtain ⟨a, b, c, d, m, l⟩ := i
  simp only at hp hk ⊢
  obtain ⟨k1, rfl⟩ : ∃ k1, k = k1 + 1 := ⟨k - 1, by omega⟩
  have hg := NibP.good_f b hp (k1 + 1) (by omega)
  unfold node_Good.f
  by_cases h0 : m < 0
  · rw [if_pos h0, j0_true, decide_eq_false]
    rintro ⟨_, _, _, h | h | h⟩ <;> simp only at h <;> omega
  rw [if_neg h0]
  by_cases h1 : m ≥ 65536
  · rw [if_pos h1, j0_true, decide_eq_false]
    rintro ⟨_, _, _, h | h | h⟩ <;> simp only at h <;> omega
  rw [if_neg h1, show node_hashes.f a b c d m l = some (hashR m.toNat l) by unfold node_hashes.f; rw [if_pos ⟨by omega, by omega⟩], Option.bind_some]
  by_cases h2 : hashR m.toNat l = true
  · have hh := (hash_iff _ _).1 h2
    rw [if_pos h2]
    by_cases h3 : (d.size : Int) > 16
    · rw [if_pos h3, j0_true, decide_eq_false]
      rintro ⟨_, h, _⟩; simp only at h; omega
    rw [if_neg h3]
    have main : (c = true ∨ d.toList = ([] : List UInt8)) → node_Good.j0 (k1 + 1) (!goodL (bytesOf b)) a b c d m l = some (decide (goodP ⟨a, b, c, d, m, l⟩)) := by
      intro hv
      by_cases hgb : goodL (bytesOf b) = true
      · rw [hgb, node_Good.j0, if_neg (by decide)]
        by_cases ka : a = 1
        · rw [if_pos ka]
          congr 1
          rw [Bool.eq_iff_iff, decide_eq_true_iff]
          simp only [Bool.and_eq_true, beq_iff_eq]
          constructor
          · rintro ⟨_, hc, hm⟩
            have hl : l.length = 0 := by have h5 := hh.1; rw [hm] at h5; exact h5.symm.trans pop0
            exact ⟨hh.2, by simp only; omega, hv, Or.inl ⟨ka, hgb, hc, hm, hl⟩⟩
          · rintro ⟨_, _, _, h | h | h⟩
            · exact ⟨ka, h.2.2.1, h.2.2.2.1⟩
            · have := h.1; simp only at this; omega
            · have := h.1; simp only at this; omega
        rw [if_neg ka]
        by_cases kb : a = 2
        · rw [if_pos kb]
          by_cases hq : (a == 2 && (!c && (d.toList == ([] : List UInt8) && (m == 1)))) = true
          · rw [if_pos hq]
            simp only [Bool.and_eq_true, beq_iff_eq, Bool.not_eq_true'] at hq
            obtain ⟨_, hc, hd, hm⟩ := hq
            have hl : l.length = 1 := by have h5 := hh.1; rw [hm] at h5; exact h5.symm.trans pop1
            congr 1
            rw [Bool.eq_iff_iff, decide_eq_true_iff, bne_iff_ne]
            constructor
            · intro hne
              exact ⟨hh.2, by simp only; omega, hv, Or.inr (Or.inl ⟨kb, hgb, hne, hc, hm, hl⟩)⟩
            · rintro ⟨_, _, _, h | h | h⟩
              · have := h.1; simp only at this; omega
              · exact h.2.2.1
              · have := h.1; simp only at this; omega
          · rw [if_neg hq, decide_eq_false]
            rintro ⟨_, _, h3', h | h | h⟩
            · have := h.1; simp only at this; omega
            · refine hq ?_
              obtain ⟨_, _, _, hc, hm, _⟩ := h
              simp only at hc hm h3'
              simp [kb, hc, hm, h3'.resolve_left (by rw [hc]; decide)]
            · have := h.1; simp only at this; omega
        rw [if_neg kb]
        by_cases kc : a = 3
        · rw [if_pos kc]
          by_cases hb : b.toList = ([] : List UInt8)
          · rw [if_pos hb]
            have fwd : (1 < l.length ∨ c = true ∧ 0 < l.length) → goodP ⟨a, b, c, d, m, l⟩ := fun hx => ⟨hh.2, by simp only; omega, hv, Or.inr (Or.inr ⟨kc, hb, by simp only; omega, by simp only; omega, hh.1, hx⟩)⟩
            have bwd : goodP ⟨a, b, c, d, m, l⟩ → (1 < l.length ∨ c = true ∧ 0 < l.length) := by
              rintro ⟨_, _, _, h | h | h⟩
              · have := h.1; simp only at this; omega
              · have := h.1; simp only at this; omega
              · exact h.2.2.2.2.2
            by_cases hl : (l.length : Int) > 1
            · rw [if_pos hl, decide_eq_true (fwd (Or.inl (by omega)))]
            · rw [if_neg hl]
              cases c
              · rw [if_neg (by decide), decide_eq_false]
                intro h; rcases bwd h with h | h
                · omega
                · cases h.1
              · rw [if_pos rfl]
                congr 1
                rw [Bool.eq_iff_iff, decide_eq_true_iff, decide_eq_true_iff]
                constructor
                · intro h; exact fwd (Or.inr ⟨rfl, by omega⟩)
                · intro h; rcases bwd h with h | h
                  · omega
                  · have := h.2; omega
          · rw [if_neg hb, decide_eq_false]
            rintro ⟨_, _, _, h | h | h⟩
            · have := h.1; simp only at this; omega
            · have := h.1; simp only at this; omega
            · exact hb h.2.1
        · rw [if_neg kc, decide_eq_false]
          rintro ⟨_, _, _, h | h | h⟩ <;> (have := h.1; simp only at this; omega)
      · rw [Bool.eq_false_iff.2 hgb, Bool.not_false, j0_true, decide_eq_false]
        rintro ⟨_, _, _, h | h | h⟩
        · exact hgb h.2.1
        · exact hgb h.2.1
        · refine hgb ?_
          have := (toList_nil b).1 h.2.1
          rw [this]; exact nil_good
    cases c
    · rw [if_neg (by decide)]
      by_cases h4 : d.toList = ([] : List UInt8)
      · rw [if_pos h4, hg, Option.bind_some]; exact main (Or.inr h4)
      · rw [if_neg h4, j0_true, decide_eq_false]
        rintro ⟨_, _, h | h, _⟩
        · cases h
        · exact h4 h
    · rw [if_pos rfl, hg, Option.bind_some]; exact main (Or.inl rfl)
  · rw [if_neg h2, j0_true, decide_eq_false]
    rintro ⟨ha, _, _, h | h | h⟩
    · refine h2 ((hash_iff _ _).2 ⟨?_, ha⟩)
      obtain ⟨_, _, _, hm, hl⟩ := h
      simp only at hm hl
      rw [hm, hl]; exact pop0
    · refine h2 ((hash_iff _ _).2 ⟨?_, ha⟩)
      obtain ⟨_, _, _, _, hm, hl⟩ := h
      simp only at hm hl
      rw [hm, hl]; exact pop1
    · exact h2 ((hash_iff _ _).2 ⟨h.2.2.2.2.1, ha⟩)
end Go.Proofs.YtklakmooaffjpaaDoor.NodP
end

section
/-
  The reference's Bits and Good in plain words: the same as the program's.
-/
namespace Go.Proofs.YtklakmooaffjpaaDoor.NodQ
open Go.RowKit Go.Proofs.YtklakmooaffjpaaDoorW.PrintWords Go.Proofs.YtklakmooaffjpaaDoorW.PrintLast Go.Proofs.YtklakmooaffjpaaDoorW.PrintMore Go.Proofs.YtklakmooaffjpaaDoor.PNod Go.Proofs.YtklakmooaffjpaaDoor.NibP Go.Proofs.YtklakmooaffjpaaDoor.NodO Go.Proofs.YtklakmooaffjpaaDoor.NodH Go.Proofs.YtklakmooaffjpaaDoor.NodP
set_option linter.unusedVariables false
theorem bit_at (n i : Nat) (hn : n < 65536) (hi : i < 16) : Go.bits .and .i64 (shr .i64 (n : Int) (IntKind.u64.wrap (i : Int))) 1 = ((n / 2 ^ i % 2 : Nat) : Int) := by
  have e : IntKind.u64.wrap (i : Int) = (i : Int) := by rw [IntKind.wrap_u64]; omega
  have e2 : shr .i64 (n : Int) (i : Int) = ((n / 2 ^ i : Nat) : Int) := by
    unfold shr
    rw [Int.toNat_natCast, show IntKind.i64.bits = 64 from rfl, Nat.min_eq_left (by omega), Int.natCast_ediv, Int.natCast_pow]; rfl
  have hq : n / 2 ^ i ≤ n := Nat.div_le_self _ _
  rw [e, e2]
  generalize n / 2 ^ i = q at hq ⊢
  have := bits_mask .i64 62 (by decide) (fun n h0 h1 => by rw [IntKind.wrap_i64]; omega) 1 (by decide) (q : Int) (by omega) (by omega)
  have e3 : ((2 : Int) ^ 1 - 1) = 1 := rfl
  rw [e3] at this
  rw [this]; omega
theorem bits_loop (n : Nat) (hn : n < 65536) : ∀ (d i acc k : Nat), i + d = 16 → acc ≤ i → d < k → r9Bits.l0 k (n : Int) (acc : Int) (i : Int) = some ((acc + pop d (n / 2 ^ i) : Nat) : Int)
  | 0, i, acc, k, h, ha, hk => by
    obtain ⟨k1, rfl⟩ : ∃ k1, k = k1 + 1 := ⟨k - 1, by omega⟩
    rw [r9Bits.l0, if_neg (by omega), pop]; rfl
  | d + 1, i, acc, k, h, ha, hk => by
    obtain ⟨k1, rfl⟩ : ∃ k1, k = k1 + 1 := ⟨k - 1, by omega⟩
    have e : IntKind.u64.wrap (i : Int) = (i : Int) := by rw [IntKind.wrap_u64]; omega
    have hb := bit_at n i hn (by omega)
    have hr : n / 2 ^ i / 2 = n / 2 ^ (i + 1) := by rw [Nat.div_div_eq_div_mul, Nat.pow_succ]
    have hm : n / 2 ^ i % 2 < 2 := Nat.mod_lt _ (by decide)
    rw [r9Bits.l0, if_pos (by omega), if_pos (by rw [e]; omega), hb, pop, hr]
    obtain ⟨q, hq⟩ : ∃ q, q = n / 2 ^ i % 2 := ⟨_, rfl⟩
    rw [← hq] at hm ⊢
    clear hq hb hr e
    have w1 : wrap64 ((acc : Int) + (q : Int)) = ((acc + q : Nat) : Int) := by rw [NibP.wr (by omega) (by omega)]; omega
    have w2 : wrap64 ((i : Int) + 1) = ((i + 1 : Nat) : Int) := by rw [NibP.wr (by omega) (by omega)]; omega
    rw [w1, w2, bits_loop n hn d (i + 1) (acc + q) k1 (by omega) (by omega) (by omega), Nat.add_assoc]
theorem bits_f (n : Nat) (hn : n < 65536) (k : Nat) (hk : 16 < k) : r9Bits.f k (n : Int) = some ((pop 16 n : Nat) : Int) := by
  have := bits_loop n hn 16 0 0 k rfl (Nat.le_refl _) hk
  rw [Nat.pow_zero, Nat.div_one, Nat.zero_add] at this
  exact this
/-- What is asked of an Item but of its hashes. -/
def restP (i : It) : Prop := i.v.size ≤ 16 ∧ (i.h = true ∨ i.v.toList = ([] : List UInt8)) ∧
  ((i.k = 1 ∧ goodL (bytesOf i.p) = true ∧ i.h = true ∧ i.m = 0 ∧ i.l.length = 0) ∨
   (i.k = 2 ∧ goodL (bytesOf i.p) = true ∧ ¬ i.p.toList = ([] : List UInt8) ∧ i.h = false ∧ i.m = 1 ∧ i.l.length = 1) ∨
   (i.k = 3 ∧ i.p.toList = ([] : List UInt8) ∧ 0 ≤ i.m ∧ i.m < 65536 ∧ pop 16 i.m.toNat = i.l.length ∧ (1 < i.l.length ∨ i.h = true ∧ 0 < i.l.length)))
instance (i : It) : Decidable (restP i) := by unfold restP; infer_instance
set_option maxHeartbeats 4000000 in
theorem rest_j1 (i : It) (hp : i.p.size ≤ 1000000) (hl : i.l.length ≤ 100000) (k : Nat) (hk : i.p.size + 20 < k) :
    (if (i.v.size : Int) > 16 then (r9Good.j1 k true i.k i.p i.h i.v i.m i.l) else (if i.h = true then (r9Good.j1 k false i.k i.p i.h i.v i.m i.l) else (r9Good.j1 k (i.v.toList != ([] : List UInt8)) i.k i.p i.h i.v i.m i.l))) = some (decide (restP i)) := by
  obtain ⟨a, b, c, d, m, l⟩ := i
  simp only at hp hk hl ⊢
  obtain ⟨k1, rfl⟩ : ∃ k1, k = k1 + 1 := ⟨k - 1, by omega⟩
  have hg := NibP.ref_good_f b hp k1 (by omega)
  have jt : r9Good.j1 (k1 + 1) true a b c d m l = some false := by rw [r9Good.j1, if_pos rfl]
  by_cases h3 : (d.size : Int) > 16
  · rw [if_pos h3, jt, decide_eq_false]
    rintro ⟨h, _⟩; simp only at h; omega
  rw [if_neg h3]
  have hsz : (b.toList = ([] : List UInt8)) ↔ b.size = 0 := by rw [toList_nil, ← NibP.len_bytesOf b, List.length_eq_zero_iff]
  have main : (c = true ∨ d.toList = ([] : List UInt8)) → r9Good.j1 (k1 + 1) false a b c d m l = some (decide (restP ⟨a, b, c, d, m, l⟩)) := by
    intro hv
    rw [r9Good.j1, if_neg (by decide)]
    have hd16 : d.size ≤ 16 := by omega
    by_cases ka : a = 1
    · rw [if_pos ka, hg, Option.bind_some]
      have iff1 : restP ⟨a, b, c, d, m, l⟩ ↔ goodL (bytesOf b) = true ∧ c = true ∧ m = 0 ∧ l.length = 0 := by
        constructor
        · rintro ⟨_, _, h | h | h⟩
          · exact h.2
          · have := h.1; simp only at this; omega
          · have := h.1; simp only at this; omega
        · intro h; exact ⟨hd16, hv, Or.inl ⟨ka, h⟩⟩
      rw [decide_eq_decide.2 iff1]
      by_cases hgb : goodL (bytesOf b) = true
      · rw [if_pos hgb]
        by_cases hc : c = true
        · rw [if_pos hc]
          by_cases hm : m = 0
          · rw [if_pos hm]; congr 1
            rw [Bool.eq_iff_iff, beq_iff_eq, decide_eq_true_iff]
            constructor
            · intro h; exact ⟨hgb, hc, hm, by omega⟩
            · intro h; have := h.2.2.2; omega
          · rw [if_neg hm, decide_eq_false (fun h => hm h.2.2.1)]
        · rw [if_neg hc, decide_eq_false (fun h => hc h.2.1)]
      · rw [if_neg hgb, decide_eq_false (fun h => hgb h.1)]
    rw [if_neg ka]
    by_cases kb : a = 2
    · rw [if_pos kb, hg, Option.bind_some]
      have iff2 : restP ⟨a, b, c, d, m, l⟩ ↔ goodL (bytesOf b) = true ∧ 1 ≤ b.size ∧ c = false ∧ m = 1 ∧ l.length = 1 := by
        constructor
        · rintro ⟨_, _, h | h | h⟩
          · have := h.1; simp only at this; omega
          · refine ⟨h.2.1, ?_, h.2.2.2⟩
            have h5 := h.2.2.1
            simp only [hsz] at h5; omega
          · have := h.1; simp only at this; omega
        · intro h; exact ⟨hd16, hv, Or.inr (Or.inl ⟨kb, h.1, (by simp only [hsz]; have := h.2.1; omega), h.2.2⟩)⟩
      rw [decide_eq_decide.2 iff2]
      by_cases hgb : goodL (bytesOf b) = true
      · rw [if_pos hgb]
        by_cases hb1 : (b.size : Int) ≥ 1
        · rw [if_pos hb1]
          by_cases hc : c = true
          · rw [if_pos hc, decide_eq_false (fun h => by rw [hc] at h; cases h.2.2.1)]
          · rw [if_neg hc]
            by_cases hm : m = 1
            · rw [if_pos hm]; congr 1
              rw [Bool.eq_iff_iff, beq_iff_eq, decide_eq_true_iff]
              constructor
              · intro h; exact ⟨hgb, by omega, Bool.eq_false_iff.2 hc, hm, by omega⟩
              · intro h; have := h.2.2.2.2; omega
            · rw [if_neg hm, decide_eq_false (fun h => hm h.2.2.2.1)]
        · rw [if_neg hb1, decide_eq_false (fun h => by have := h.2.1; omega)]
      · rw [if_neg hgb, decide_eq_false (fun h => hgb h.1)]
    rw [if_neg kb]
    by_cases kc : a = 3
    · rw [if_pos kc]
      have iff3 : restP ⟨a, b, c, d, m, l⟩ ↔ b.toList = ([] : List UInt8) ∧ 0 ≤ m ∧ m < 65536 ∧ pop 16 m.toNat = l.length ∧ (1 < l.length ∨ c = true ∧ 0 < l.length) := by
        constructor
        · rintro ⟨_, _, h | h | h⟩
          · have := h.1; simp only at this; omega
          · have := h.1; simp only at this; omega
          · exact h.2
        · intro h; exact ⟨hd16, hv, Or.inr (Or.inr ⟨kc, h⟩)⟩
      rw [decide_eq_decide.2 iff3]
      have body : ∀ (F : Bool), (F = true ↔ (1 < l.length ∨ c = true ∧ 0 < l.length)) → (if b.toList = ([] : List UInt8) then (if m ≥ 0 then (if m ≤ 65535 then ((r9Bits.f k1 m).bind fun t => (if t = (l.length : Int) then (some F) else (some false))) else (some false)) else (some false)) else (some false)) = some (decide (b.toList = ([] : List UInt8) ∧ 0 ≤ m ∧ m < 65536 ∧ pop 16 m.toNat = l.length ∧ (1 < l.length ∨ c = true ∧ 0 < l.length))) := by
        intro F hF
        by_cases hb : b.toList = ([] : List UInt8)
        · rw [if_pos hb]
          by_cases m0 : m ≥ 0
          · rw [if_pos m0]
            by_cases m1 : m ≤ 65535
            · obtain ⟨n, hn⟩ : ∃ n : Nat, m = (n : Int) := ⟨m.toNat, by omega⟩
              rw [if_pos m1, hn, bits_f n (by omega) k1 (by omega), Option.bind_some, Int.toNat_natCast]
              by_cases hq : ((pop 16 n : Nat) : Int) = (l.length : Int)
              · rw [if_pos hq]; congr 1
                rw [Bool.eq_iff_iff, decide_eq_true_iff, hF]
                constructor
                · intro h; exact ⟨hb, by omega, by omega, by omega, h⟩
                · intro h; exact h.2.2.2.2
              · rw [if_neg hq, decide_eq_false (fun h => hq (by have := h.2.2.2.1; omega))]
            · rw [if_neg m1, decide_eq_false (fun h => m1 (by have := h.2.2.1; omega))]
          · rw [if_neg m0, decide_eq_false (fun h => m0 h.2.1)]
        · rw [if_neg hb, decide_eq_false (fun h => hb h.1)]
      cases c
      · rw [if_neg (by decide)]
        exact body _ (by rw [decide_eq_true_iff]; constructor
                         · intro h; exact Or.inl (by omega)
                         · rintro (h | h)
                           · omega
                           · cases h.1)
      · rw [if_pos rfl]
        have w2 : wrap64 ((l.length : Int) + 1) = ((l.length + 1 : Nat) : Int) := by rw [NibP.wr (by omega) (by omega)]; omega
        rw [w2]
        exact body _ (by rw [decide_eq_true_iff]; constructor
                         · intro h; exact Or.inr ⟨rfl, by omega⟩
                         · rintro (h | h)
                           · omega
                           · have := h.2; omega)
    · rw [if_neg kc, decide_eq_false]
      rintro ⟨_, _, h | h | h⟩ <;> (have := h.1; simp only at this; omega)
  cases c
  · rw [if_neg (by decide)]
    by_cases h4 : d.toList = ([] : List UInt8)
    · rw [show (d.toList != ([] : List UInt8)) = false by rw [h4]; rfl]; exact main (Or.inr h4)
    · rw [show (d.toList != ([] : List UInt8)) = true from bne_iff_ne.2 h4, jt, decide_eq_false]
      rintro ⟨_, h | h, _⟩
      · cases h
      · exact h4 h
  · rw [if_pos rfl]; exact main (Or.inl rfl)
theorem rgood_loop (i : It) (hp : i.p.size ≤ 1000000) (hl : i.l.length ≤ 100000) : ∀ (d j k : Nat), j + d = i.l.length → i.p.size + 20 + d + 1 < k → r9Good.l0 k (j : Int) i.k i.p i.h i.v i.m i.l = some (decide ((∀ x ∈ i.l.drop j, x.size = 32) ∧ restP i))
  | 0, j, k, h, hk => by
    obtain ⟨k1, rfl⟩ : ∃ k1, k = k1 + 1 := ⟨k - 1, by omega⟩
    rw [r9Good.l0, if_neg (by omega), rest_j1 i hp hl k1 (by omega), List.drop_eq_nil_of_le (by omega)]
    congr 1
    rw [decide_eq_decide]
    exact ⟨fun h => ⟨fun x hx => (by cases hx), h⟩, fun h => h.2⟩
  | d + 1, j, k, h, hk => by
    obtain ⟨k1, rfl⟩ : ∃ k1, k = k1 + 1 := ⟨k - 1, by omega⟩
    have hj : j < i.l.length := by omega
    have hr : rdOf ByteArray.empty i.l (j : Int) = i.l[j] := by
      unfold rdOf
      rw [Int.toNat_natCast, List.getD_eq_getElem?_getD, List.getElem?_eq_getElem hj]; rfl
    have w2 : wrap64 ((j : Int) + 1) = ((j + 1 : Nat) : Int) := by rw [NibP.wr (by omega) (by omega)]; omega
    rw [r9Good.l0, if_pos (by omega), if_pos (by omega), hr, List.drop_eq_getElem_cons hj]
    by_cases hs : (i.l[j].size : Int) = 32
    · rw [if_pos hs, w2, rgood_loop i hp hl d (j + 1) k1 (by omega) (by omega)]
      congr 1
      rw [decide_eq_decide]
      constructor
      · intro h2
        refine ⟨fun x hx => ?_, h2.2⟩
        rcases List.mem_cons.1 hx with rfl | hx
        · omega
        · exact h2.1 x hx
      · intro h2; exact ⟨fun x hx => h2.1 x (List.mem_cons_of_mem _ hx), h2.2⟩
    · rw [if_neg hs, decide_eq_false]
      intro h2; exact hs (by have := h2.1 _ (List.mem_cons_self); omega)
theorem rgood_f (i : It) (hp : i.p.size ≤ 1000000) (hl : i.l.length ≤ 100000) (k : Nat) (hk : i.p.size + i.l.length + 22 < k) : r9Good.f k i.k i.p i.h i.v i.m i.l = some (decide (goodP i)) := by
  have := rgood_loop i hp hl i.l.length 0 k (by omega) (by omega)
  unfold r9Good.f
  rw [show ((0 : Nat) : Int) = 0 from rfl] at this
  rw [this, List.drop_zero]
  congr 1
end Go.Proofs.YtklakmooaffjpaaDoor.NodQ
end

section
/-
  An Item's text in plain words: node.Encode.
-/
namespace Go.Proofs.YtklakmooaffjpaaDoor.NodE
open Go.RowKit Go.Proofs.YtklakmooaffjpaaDoorW.PrintWords Go.Proofs.YtklakmooaffjpaaDoorW.PrintLast Go.Proofs.YtklakmooaffjpaaDoorW.PrintMore Go.Proofs.YtklakmooaffjpaaDoor.PNod Go.Proofs.YtklakmooaffjpaaDoor.NibP Go.Proofs.YtklakmooaffjpaaDoor.NodO Go.Proofs.YtklakmooaffjpaaDoor.NodH Go.Proofs.YtklakmooaffjpaaDoor.NodP Go.Proofs.YtklakmooaffjpaaDoor.NodQ
set_option linter.unusedVariables false
/-- All texts, one behind the other. -/
def allB : List ByteArray → ByteArray
  | [] => ⟨#[]⟩
  | x :: l => x ++ allB l
theorem tail_flat (r : List (List UInt8)) : Lib.joinTail [] r = r.flatten := by simp [Lib.joinTail]
theorem tail_all (l : List ByteArray) : Lib.joinTail [] (l.map (·.data.toList)) = (allB l).data.toList := by
  rw [tail_flat]
  induction l with
  | nil => rfl
  | cons x l ih => rw [List.map_cons, List.flatten_cons, ih]; simp [allB]
theorem join_all (l : List ByteArray) : joinB l (⟨#[]⟩ : ByteArray) = allB l := by
  apply bytes_inj
  unfold bytesOf
  congr 1
  unfold joinB
  cases l with
  | nil => rfl
  | cons x l =>
    simp only [List.map_cons]
    show (Lib.join (x.data.toList :: l.map (·.data.toList)) []) = _
    rw [Lib.join_cons, tail_all]
    simp [allB]
theorem all_size (l : List ByteArray) (h : ∀ x ∈ l, x.size = 32) : (allB l).size = 32 * l.length := by
  induction l with
  | nil => rfl
  | cons x l ih =>
    rw [allB, ByteArray.size_append, h x (List.mem_cons_self), ih (fun y hy => h y (List.mem_cons_of_mem _ hy)), List.length_cons]; omega
theorem pop_le : ∀ k n : Nat, pop k n ≤ k
  | 0, n => by rw [pop]; exact Nat.le_refl _
  | k + 1, n => by
    have h1 := pop_le k (n / 2)
    have h2 : n % 2 < 2 := Nat.mod_lt _ (by decide)
    rw [pop]
    generalize n % 2 = q at *
    omega
theorem good_len {i : It} (h : goodP i) : i.l.length ≤ 16 := by
  obtain ⟨_, _, _, h | h | h⟩ := h
  · have := h.2.2.2.2; omega
  · have := h.2.2.2.2.2; omega
  · have h1 := h.2.2.2.2.1
    have h2 := pop_le 16 i.m.toNat
    omega
theorem pack_size (p : ByteArray) : (packS p).1.size ≤ 100 := by
  unfold packS
  split
  · rename_i h
    have h1 := (good_size h).1
    rw [NibP.str_size, List.length_cons, twoL_length, NibP.len_bytesOf]; omega
  · exact Nat.zero_le _
def vB (v : ByteArray) : ByteArray := strOfNums [(v.size : Int) % 256] ++ v
/-- An Item's text. -/
def encB (i : It) : ByteArray :=
  if i.k = 1 then strOfNums [i.k % 256] ++ (packS i.p).1 ++ vB i.v
  else if i.k = 2 then strOfNums [i.k % 256] ++ (packS i.p).1 ++ allB i.l
  else if i.h = true then strOfNums [i.k % 256] ++ strOfNums [i.m / 256 % 256, i.m % 256] ++ (⟨#[1]⟩ : ByteArray) ++ vB i.v ++ allB i.l
  else strOfNums [i.k % 256] ++ strOfNums [i.m / 256 % 256, i.m % 256] ++ (⟨#[0]⟩ : ByteArray) ++ allB i.l
def encR (i : It) : ByteArray × Bool := if goodP i then (encB i, true) else (⟨#[]⟩, false)
theorem value_f (v : ByteArray) (h : v.size ≤ 1000) : node_value.f v = some (vB v) := by
  unfold node_value.f
  rw [Option.bind_some, if_pos (by rw [NibP.str_size]; simp only [List.length_cons, List.length_nil]; omega)]; rfl
theorem join_ok (l : List ByteArray) (h : l.length ≤ 16) (hs : ∀ x ∈ l, x.size = 32) : strings_Join.f l (⟨#[]⟩ : ByteArray) = some (allB l) := by
  show join_f l _ = _
  unfold join_f
  rw [join_all, if_pos ⟨by omega, by rw [all_size l hs]; omega⟩]
theorem enc_f (i : It) (hp : i.p.size ≤ 1000000) (k : Nat) (hk : i.p.size + 1 < k) : node_Encode.f k i.k i.p i.h i.v i.m i.l = some (encR i) := by
  unfold node_Encode.f encR
  rw [NodP.good_f i hp k hk, Option.bind_some]
  by_cases hg : goodP i
  · have hl := good_len hg
    have hs := all_size i.l hg.1
    have hv := hg.2.1
    have hpk := pack_size i.p
    have h1 : (strOfNums [i.k % 256]).size = 1 := by rw [NibP.str_size]; rfl
    have h2 : (strOfNums [i.m / 256 % 256, i.m % 256]).size = 2 := by rw [NibP.str_size]; rfl
    have h3 : (vB i.v).size = 1 + i.v.size := by rw [vB, ByteArray.size_append, NibP.str_size]; rfl
    have z0 : (⟨#[0]⟩ : ByteArray).size = 1 := rfl
    have z1 : (⟨#[1]⟩ : ByteArray).size = 1 := rfl
    rw [if_pos (decide_eq_true hg), if_pos hg, Option.bind_some, NibP.pack_f i.p hp k (by omega), Option.bind_some, join_ok i.l hl hg.1, Option.bind_some]
    unfold encB
    by_cases ka : i.k = 1
    · rw [if_pos ka, if_pos (by omega), value_f i.v (by omega), Option.bind_some, if_pos (by rw [ByteArray.size_append]; omega), if_pos ka]
    · rw [if_neg ka, if_neg ka]
      by_cases kb : i.k = 2
      · rw [if_pos kb, if_pos (by omega), if_pos (by rw [ByteArray.size_append]; omega), if_pos kb]
      · rw [if_neg kb, if_neg kb, Option.bind_some, if_pos (by omega)]
        by_cases hh : i.h = true
        · rw [if_pos hh, if_pos hh, if_pos (by rw [ByteArray.size_append]; omega), value_f i.v (by omega), Option.bind_some, if_pos (by simp only [ByteArray.size_append]; omega), if_pos (by simp only [ByteArray.size_append]; omega)]
        · rw [if_neg hh, if_neg hh, if_pos (by rw [ByteArray.size_append]; omega), if_pos (by simp only [ByteArray.size_append]; omega)]
  · rw [if_neg (by rw [decide_eq_true_iff]; exact hg), if_neg hg]
end Go.Proofs.YtklakmooaffjpaaDoor.NodE
end

section
/-
  The reader over a text that is made of its parts.
-/
namespace Go.Proofs.YtklakmooaffjpaaDoor.NodG
open Go.RowKit Go.Proofs.YtklakmooaffjpaaDoorW.PrintWords Go.Proofs.YtklakmooaffjpaaDoorW.PrintLast Go.Proofs.YtklakmooaffjpaaDoorW.PrintMore Go.Proofs.YtklakmooaffjpaaDoor.PNor Go.Proofs.YtklakmooaffjpaaDoor.NibP Go.Proofs.YtklakmooaffjpaaDoor.NodE
set_option linter.unusedVariables false
theorem mn_le (a b : Int) (h : a ≤ b) : mn a b = a := by unfold mn; split <;> omega
theorem mn_ge (a b : Int) (h : b ≤ a) : mn a b = b := by unfold mn; split <;> omega
theorem ext_left (a b : ByteArray) : (a ++ b).extract 0 a.size = a := by
  apply bytes_inj
  rw [bytes_extract, bytes_app, List.drop_zero, ← NibP.len_bytesOf a, List.take_left]
theorem ext_right (a b : ByteArray) : (a ++ b).extract a.size (a ++ b).size = b := by
  apply bytes_inj
  rw [bytes_extract, bytes_app, List.take_of_length_le (by rw [List.length_append, NibP.len_bytesOf, NibP.len_bytesOf, ByteArray.size_append]; omega), ← NibP.len_bytesOf a, List.drop_left]
theorem take_app (a b : ByteArray) (n : Int) (hn : n = (a.size : Int)) : n9take.f (a ++ b) n = some (a, b) := by
  have hs : (a ++ b).size = a.size + b.size := ByteArray.size_append
  unfold n9take.f
  rw [hn, mn_le _ _ (by omega), if_pos (by omega), if_pos (by omega), Int.toNat_natCast, ext_left, ext_right]
theorem app_nil (s : ByteArray) : s ++ (⟨#[]⟩ : ByteArray) = s := by apply bytes_inj; simp [bytesOf]
theorem take_all (a : ByteArray) (n : Int) (hn : (a.size : Int) ≤ n) : n9take.f a n = some (a, ⟨#[]⟩) := by
  have := take_app a ⟨#[]⟩ (a.size : Int) rfl
  rw [app_nil] at this
  unfold n9take.f at this ⊢
  rw [mn_ge _ _ hn]
  rw [mn_le _ _ (Int.le_refl _)] at this
  exact this
theorem number_app (x : Int) (h0 : 0 ≤ x) (h1 : x < 256) (b : ByteArray) : n9number.f (strOfNums [x] ++ b) = some (x, b) := by
  have hz : (strOfNums [x]).size = 1 := by rw [NibP.str_size]; rfl
  have hR : R [x] := fun y hy => by rw [List.mem_singleton.1 hy]; exact ⟨h0, h1⟩
  unfold n9number.f
  rw [take_app (strOfNums [x]) b 1 (by rw [hz]; rfl), Option.bind_some]
  have hne : ¬ (strOfNums [x]).toList = ([] : List UInt8) := fun q => by
    rw [toList_nil, bytes_str _ hR] at q; cases q
  rw [if_neg hne, if_pos (by rw [hz]; decide), bt_str hR]
  have : rd [x] 0 = x := rfl
  rw [this, NibP.wr h0 (by omega)]
theorem rest_loop : ∀ (l : List ByteArray) (acc : List ByteArray) (k : Nat), (∀ x ∈ l, x.size = 32) → l.length < k → acc.length + l.length ≤ 1000 → n9rest.l0 k acc (allB l) = some (acc ++ l, (⟨#[]⟩ : ByteArray))
  | [], acc, k, hs, hk, hl => by
    obtain ⟨k1, rfl⟩ : ∃ k1, k = k1 + 1 := ⟨k - 1, by simp at hk; omega⟩
    rw [n9rest.l0, allB, if_pos ((toList_nil _).2 rfl), List.append_nil]
  | x :: l, acc, k, hs, hk, hl => by
    obtain ⟨k1, rfl⟩ : ∃ k1, k = k1 + 1 := ⟨k - 1, by simp at hk; omega⟩
    have hx := hs x (List.mem_cons_self)
    have hne : ¬ (x ++ allB l).toList = ([] : List UInt8) := fun q => by
      have h1 := (toList_nil _).1 q
      have h2 := congrArg List.length h1
      rw [NibP.len_bytesOf, ByteArray.size_append, hx] at h2
      simp at h2
    rw [n9rest.l0, allB, if_neg hne, take_app x (allB l) 32 (by rw [hx]; rfl), Option.bind_some, if_pos (by simp at hl; omega)]
    rw [rest_loop l (acc ++ [x]) k1 (fun y hy => hs y (List.mem_cons_of_mem _ hy)) (by simp at hk; omega) (by simp at hl ⊢; omega), List.append_assoc]; rfl
theorem rest_all (l : List ByteArray) (k : Nat) (hs : ∀ x ∈ l, x.size = 32) (hk : l.length < k) (hl : l.length ≤ 1000) : n9rest.f k (allB l) = some (l, (⟨#[]⟩ : ByteArray)) := by
  unfold n9rest.f
  rw [rest_loop l [] k hs hk (by simpa using hl)]; rfl
end Go.Proofs.YtklakmooaffjpaaDoor.NodG
end

section
/-
  Nibbles packed, and unpacked, in plain lists.
-/
namespace Go.Proofs.YtklakmooaffjpaaDoor.NibL
open Go.RowKit Go.Proofs.YtklakmooaffjpaaDoorW.PrintWords Go.Proofs.YtklakmooaffjpaaDoor.NibP
set_option linter.unusedVariables false
theorem nibL_twoL (l : List Int) (hR : R l) (hs : smallL l = true) : (nibL (twoL l)).take l.length = l := by
  fun_induction twoL l with
  | case1 => rfl
  | case2 x =>
    have h1 := hR x (by simp)
    have h2 : x ≤ 15 := by simpa [smallL] using hs
    simp [nibL]
    omega
  | case3 x y l ih =>
    have h1 := hR x (by simp)
    have h2 := hR y (by simp)
    simp only [smallL, List.all_cons, Bool.and_eq_true, decide_eq_true_eq] at hs
    have := ih (fun z hz => hR z (by simp [hz])) hs.2.2
    rw [nibL_cons]
    simp only [List.length_cons, List.cons_append, List.nil_append, List.take_succ_cons, this]
    congr 1
    · omega
    · congr 1; omega
theorem pack_size {s : ByteArray} (h : goodL (bytesOf s) = true) : (packS s).1.size = 1 + (s.size + 1) / 2 := by
  rw [packS, if_pos h]
  simp [str_size, twoL_length, len_bytesOf]; omega
theorem back_unp (s more : ByteArray) (h : goodL (bytesOf s) = true) : unpS ((packS s).1 ++ more) = (s, ((packS s).1.size : Int), true) := by
  obtain ⟨h1, h2⟩ := good_size h
  have hps := pack_size h
  rw [hps]
  have hRl : R ((s.size : Int) :: twoL (bytesOf s)) := fun x hx => (List.mem_cons.1 hx).elim (fun e => by subst e; omega) (R_twoL _ x)
  have e : bytesOf ((packS s).1 ++ more) = (s.size : Int) :: (twoL (bytesOf s) ++ bytesOf more) := by
    rw [bytes_app, packS, if_pos h]
    show bytesOf (strOfNums _) ++ _ = _
    rw [bytes_str _ hRl]; rfl
  have hl2 : (twoL (bytesOf s)).length = (s.size + 1) / 2 := by rw [twoL_length, len_bytesOf]
  unfold unpS
  rw [e]
  show (if _ then _ else _) = _
  rw [Int.toNat_natCast]
  have ht : (twoL (bytesOf s) ++ bytesOf more).take ((s.size + 1) / 2) = twoL (bytesOf s) := by
    rw [List.take_append, List.take_of_length_le (by omega), hl2]; simp
  have hn : (nibL (twoL (bytesOf s))).take s.size = bytesOf s := by
    have := nibL_twoL _ (R_bytesOf s) h2
    rwa [len_bytesOf] at this
  rw [ht, hn, if_pos ⟨by omega, by rw [List.length_append]; omega, rfl⟩, str_bytes]
  congr 2
theorem unp_pack (s : ByteArray) (h : (unpS s).2.2 = true) : ∃ n : Nat, 1 ≤ n ∧ n ≤ s.size ∧ (unpS s).2.1 = n ∧ packS (unpS s).1 = (s.extract 0 n, true) ∧ (unpS s).1.size ≤ 16 := by
  have hlen := len_bytesOf s
  have hR := R_bytesOf s
  unfold unpS at h ⊢
  cases hb : bytesOf s with
  | nil => rw [hb] at h; cases h
  | cons n l =>
    rw [hb] at h hlen hR
    have hn := hR n List.mem_cons_self
    have hl : R l := fun x hx => hR x (List.mem_cons_of_mem _ hx)
    rw [List.length_cons] at hlen
    obtain ⟨m, hm⟩ : ∃ m, m = (n.toNat + 1) / 2 := ⟨_, rfl⟩
    simp only [← hm] at h ⊢
    by_cases c : n ≤ 16 ∧ m ≤ l.length ∧ twoL ((nibL (l.take m)).take n.toNat) = l.take m
    · rw [if_pos c]
      obtain ⟨c1, c2, c3⟩ := c
      have hlm : (l.take m).length = m := by rw [List.length_take]; omega
      have hRt := R_take (R_nibL (R_take hl m)) n.toNat
      have hsz : (strOfNums ((nibL (l.take m)).take n.toNat)).size = n.toNat := by rw [str_size, List.length_take, nibL_length, hlm]; omega
      refine ⟨1 + m, by omega, by omega, by simp, ?_, by show ByteArray.size _ ≤ 16; rw [hsz]; omega⟩
      have hgood : goodL (bytesOf (strOfNums ((nibL (l.take m)).take n.toNat))) = true := by
        rw [bytes_str _ hRt]
        simp only [goodL, Bool.and_eq_true, decide_eq_true_eq]
        refine ⟨by rw [List.length_take]; omega, ?_⟩
        have := small_nibL (R_take hl m)
        simp only [smallL, List.all_eq_true] at this ⊢
        exact fun x hx => this x (List.mem_of_mem_take hx)
      show packS (strOfNums _) = _
      rw [packS, if_pos hgood, bytes_str _ hRt, c3, hsz]
      congr 1
      apply bytes_inj
      rw [bytes_extract, hb, bytes_str _ (fun x hx => (List.mem_cons.1 hx).elim (fun e => by rw [e]; omega) (fun h => R_take hl m x h)), Nat.add_comm 1 m]
      show _ = n :: l.take m
      congr 1
      omega
    · rw [if_neg c] at h; cases h
theorem unp_no (s : ByteArray) (h : (unpS s).2.2 = false) : unpS s = (E0, 0, false) := by
  unfold unpS at h ⊢
  split
  · rfl
  · rename_i hb
    rw [hb] at h
    split
    · rename_i c
      simp only [if_pos c] at h
      cases h
    · rfl
end Go.Proofs.YtklakmooaffjpaaDoor.NibL
end

section
/-
  What is read of an Item's text is the Item.
-/
namespace Go.Proofs.YtklakmooaffjpaaDoor.NodI
open Go.RowKit Go.Proofs.YtklakmooaffjpaaDoorW.PrintWords Go.Proofs.YtklakmooaffjpaaDoorW.PrintLast Go.Proofs.YtklakmooaffjpaaDoorW.PrintMore Go.Proofs.YtklakmooaffjpaaDoor.PNor Go.Proofs.YtklakmooaffjpaaDoor.NibP Go.Proofs.YtklakmooaffjpaaDoor.NodO Go.Proofs.YtklakmooaffjpaaDoor.NodP Go.Proofs.YtklakmooaffjpaaDoor.NodE Go.Proofs.YtklakmooaffjpaaDoor.NodG
set_option linter.unusedVariables false
theorem app_assoc (a b c : ByteArray) : a ++ b ++ c = a ++ (b ++ c) := by apply bytes_inj; simp [bytesOf]
theorem nil_of {s : ByteArray} (h : s.toList = ([] : List UInt8)) : s = (⟨#[]⟩ : ByteArray) := by
  apply bytes_inj; rw [(toList_nil s).1 h]; rfl
theorem path_app (p rest : ByteArray) (hg : goodL (bytesOf p) = true) (hs : rest.size ≤ 10000) (k : Nat) (hk : 20000 < k) : n9path.f k ((packS p).1 ++ rest) = some (p, rest) := by
  have hz := NodE.pack_size p
  unfold n9path.f
  rw [NibP.unp_f _ (by rw [ByteArray.size_append]; omega) k (by rw [ByteArray.size_append]; omega), NibL.back_unp p rest hg, Option.bind_some]
  dsimp only
  rw [take_app (packS p).1 rest _ rfl]; rfl
theorem two_app (a b : Int) (x : ByteArray) : strOfNums [a, b] ++ x = strOfNums [a] ++ (strOfNums [b] ++ x) := by
  apply bytes_inj; simp [bytesOf, strOfNums]
theorem join256 (m : Int) (h0 : 0 ≤ m) (h1 : m < 65536) : Go.bits .or .i64 (wrap64 (m / 256 % 256 * 256)) (m % 256) = m := by
  have e : wrap64 (m / 256 % 256 * 256) = m / 256 % 256 * 256 := NibP.wr (by omega) (by omega)
  rw [e, bits_join .i64 62 (by decide) (fun n h0 h1 => by rw [IntKind.wrap_i64]; omega) 8 (m / 256 % 256 * 256) (m % 256) (by omega) (by omega) (by omega) (by omega) (by omega) (by omega)]
  omega
theorem val_app (v x : ByteArray) (hv : v.size ≤ 16) : vB v ++ x = strOfNums [(v.size : Int)] ++ (v ++ x) := by
  rw [vB, app_assoc, Int.emod_eq_of_lt (by omega) (by omega)]
set_option maxHeartbeats 1000000 in
theorem read_enc (i : It) (hg : goodP i) (k : Nat) (hk : 20000 < k) : NodR.read_f k (encB i) = some (i.k, i.p, i.h, i.v, i.m, i.l) := by
  have hl := good_len hg
  have hv := hg.2.1
  have hs := hg.1
  have hb := hg.2.2.1
  have R0 := rest_all i.l k hs (by omega) (by omega)
  have hz := NodE.all_size i.l hs
  obtain ⟨a, p, h, v, m, l⟩ := i
  simp only at hl hv hs hb R0 hz ⊢
  unfold NodR.read_f encB
  rcases hg.2.2.2 with ⟨ka, h1, h2, h3, h4⟩ | ⟨ka, h1, h2, h3, h4, h5⟩ | ⟨ka, h1, h2, h3, h4, h5⟩
  · simp only at ka h1 h2 h3 h4
    have hl0 := List.eq_nil_of_length_eq_zero h4
    subst ka h2 h3 hl0
    simp only [if_pos]
    rw [app_assoc, show ((1 : Int) % 256) = 1 from rfl, number_app 1 (by decide) (by decide), Option.bind_some]
    simp only [if_pos]
    rw [path_app p _ h1 (by rw [vB, ByteArray.size_append, NibP.str_size]; simp; omega) k hk, Option.bind_some]
    dsimp only
    have := val_app v ⟨#[]⟩ hv
    rw [NodG.app_nil, NodG.app_nil] at this
    rw [this, number_app _ (by omega) (by omega), Option.bind_some]
    dsimp only
    rw [take_all v _ (Int.le_refl _), Option.bind_some]
    dsimp only
    rw [show (⟨#[]⟩ : ByteArray) = allB [] from rfl, R0, Option.bind_some]
  · simp only at ka h1 h2 h3 h4 h5 hb
    have hv0 : v = (⟨#[]⟩ : ByteArray) := nil_of (hb.resolve_left (by rw [h3]; decide))
    subst ka h3 h4 hv0
    simp only [if_pos, if_neg (show ¬ ((2 : Int) = 1) by decide)]
    rw [app_assoc, show ((2 : Int) % 256) = 2 from rfl, number_app 2 (by decide) (by decide), Option.bind_some]
    simp only [if_pos, if_neg (show ¬ ((2 : Int) = 1) by decide)]
    rw [path_app p _ h1 (by rw [hz]; omega) k hk, Option.bind_some]
    dsimp only
    rw [R0, Option.bind_some]
  · simp only at ka h1 h2 h3 h4 h5 hb
    have hp0 := nil_of h1
    subst ka hp0
    have j := join256 m h2 h3
    simp only [if_neg (show ¬ ((3 : Int) = 1) by decide), if_neg (show ¬ ((3 : Int) = 2) by decide)]
    by_cases hh : h = true
    · subst hh
      rw [if_pos rfl]
      simp only [app_assoc]
      rw [show ((3 : Int) % 256) = 3 from rfl, number_app 3 (by decide) (by decide), Option.bind_some]
      simp only [if_neg (show ¬ ((3 : Int) = 1) by decide), if_neg (show ¬ ((3 : Int) = 2) by decide), if_pos]
      rw [two_app, number_app _ (by omega) (by omega), Option.bind_some]
      dsimp only
      rw [number_app _ (by omega) (by omega), Option.bind_some]
      dsimp only
      rw [show (⟨#[1]⟩ : ByteArray) = strOfNums [1] from rfl, number_app 1 (by decide) (by decide), Option.bind_some]
      simp only [if_pos]
      rw [val_app v _ hv, number_app _ (by omega) (by omega), Option.bind_some]
      dsimp only
      rw [take_app v _ _ rfl, Option.bind_some]
      dsimp only
      rw [R0, Option.bind_some, j]
    · have hf := Bool.eq_false_iff.2 hh
      have hv0 : v = (⟨#[]⟩ : ByteArray) := nil_of (hb.resolve_left hh)
      subst hf hv0
      rw [if_neg (by decide)]
      simp only [app_assoc]
      rw [show ((3 : Int) % 256) = 3 from rfl, number_app 3 (by decide) (by decide), Option.bind_some]
      simp only [if_neg (show ¬ ((3 : Int) = 1) by decide), if_neg (show ¬ ((3 : Int) = 2) by decide), if_pos]
      rw [two_app, number_app _ (by omega) (by omega), Option.bind_some]
      dsimp only
      rw [number_app _ (by omega) (by omega), Option.bind_some]
      dsimp only
      rw [show (⟨#[0]⟩ : ByteArray) = strOfNums [0] from rfl, number_app 0 (by decide) (by decide), Option.bind_some]
      simp only [if_neg (show ¬ ((0 : Int) = 1) by decide)]
      rw [R0, Option.bind_some, j]
end Go.Proofs.YtklakmooaffjpaaDoor.NodI
end
