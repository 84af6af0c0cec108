import Derived.Test.YtbgojedhciimaaaDoorPSumx2
import Derived.Test.YtbgojedhciimaaaDoorSumL
namespace Go.Proofs.YtbgojedhciimaaaDoor.Pure
open Go.RowKit Go.Proofs.YtbgojedhciimaaaDoor.PSum Go.Proofs.YtbgojedhciimaaaDoorW.PrintWords Go.Proofs.YtbgojedhciimaaaDoorW.PrintLast
open Go.Proofs.YtbgojedhciimaaaDoor.SumL Go.Proofs.YtbgojedhciimaaaDoor.SumH
set_option linter.unusedVariables false
theorem bits_loop (a b c : ByteArray) (n : Nat) (ha : n ≤ a.size) (hb : n ≤ b.size) (hc : n ≤ c.size) (ha' : a.size ≤ 140737488351232) (hb' : b.size ≤ 140737488351232) (hc' : c.size ≤ 140737488351232) (hn : n ≤ 500) (d : Nat) :
    ∀ (k j : Nat), j + d = n → d + 30 < k → umbellaw03_SumBits.l0 k a b c (n : Int) (((z3 a b c n).take j).map fun x => (x.toNat : Int)) j = some true := by
  induction d with
  | zero =>
    intro k j hj hk
    obtain ⟨k, rfl⟩ : ∃ m, k = m + 1 := ⟨k - 1, by omega⟩
    simp only [umbellaw03_SumBits.l0]
    have hl := z3_len a b c n ha hb hc
    have hz : (z3 a b c n).take j = z3 a b c n := List.take_of_length_le (by omega)
    have e : ∀ s : ByteArray, n ≤ s.size → s.size ≤ 140737488351232 → sum_Of.f (s.extract 0 (n : Int).toNat) = some ((Crc.crc 0 (s.data.toList.take n) : Nat) : Int) := by
      intro s h1 h2
      rw [of_ok _ (by rw [ByteArray.size_extract]; omega)]
      simp [ByteArray.data_extract]
    rw [if_neg (by omega), hz, of_ok _ (by rw [str_len, List.length_map]; omega), e a ha ha', e b hb hb', e c hc hc', str_nat]
    simp only [Option.bind_some]
    have hlen : ∀ s : ByteArray, n ≤ s.size → (s.data.toList.take n).length = n := fun s h => by have := data_length s; rw [List.length_take]; omega
    have h3 := Crc.crc_three (a.data.toList.take n) (b.data.toList.take n) (c.data.toList.take n) (by rw [hlen a ha, hlen b hb]) (by rw [hlen a ha, hlen c hc])
    have l1 := Crc.crc_lt 0 (a.data.toList.take n) (by decide)
    have l2 := Crc.crc_lt 0 (b.data.toList.take n) (by decide)
    have l3 := Crc.crc_lt 0 (c.data.toList.take n) (by decide)
    rw [if_pos (by omega), if_pos (by omega), if_pos (by omega), if_pos (by omega), bits_xor_u32 _ _ l1 l2, bits_xor_u32 _ _ (Nat.xor_lt_two_pow (n := 32) l1 l2) l3, if_pos (by rw [← h3]; rfl), wakes_f k (by omega)]
    rfl
  | succ d ih =>
    intro k j hj hk
    obtain ⟨k, rfl⟩ : ∃ m, k = m + 1 := ⟨k - 1, by omega⟩
    simp only [umbellaw03_SumBits.l0]
    have hl := z3_len a b c n ha hb hc
    have hw : wrap64 ((j : Int) + 1) = ((j + 1 : Nat) : Int) := by unfold wrap64; omega
    have ht : (z3 a b c n).take (j + 1) = (z3 a b c n).take j ++ [a[j] ^^^ b[j] ^^^ c[j]] := by
      rw [List.take_succ_eq_append_getElem (by omega), z3_at a b c n j ha hb hc (by omega)]
    rw [if_pos (by omega), if_pos (by omega), if_pos (by omega), if_pos (by omega), if_pos (by omega), if_pos (by rw [List.length_map, List.length_take]; omega), hw,
      bt_nat a j (by omega), bt_nat b j (by omega), bt_nat c j (by omega), bits_xor_u8, bits_xor_u8]
    have := ih k (j + 1) (by omega) (by omega)
    rw [ht, List.map_append] at this
    exact this

theorem mn_nat (a b : Nat) : mn (a : Int) (b : Int) = ((min a b : Nat) : Int) := by
  unfold mn; split <;> omega
theorem SumBits : umbellaw03_SumBits.Pure := by
  intro a b c ha hb hc
  refine ⟨600, ?_⟩
  unfold umbellaw03_SumBits.f
  rw [mn_nat, mn_nat]
  by_cases h : min (min a.size b.size) c.size ≤ 500
  · rw [if_neg (by omega)]
    have := bits_loop a b c (min (min a.size b.size) c.size) (by omega) (by omega) (by omega) ha hb hc h (min (min a.size b.size) c.size) 600 0 (by omega) (by omega)
    simpa using this
  · rw [if_pos (by omega), wakes_f _ (by omega)]; rfl
end Go.Proofs.YtbgojedhciimaaaDoor.Pure
