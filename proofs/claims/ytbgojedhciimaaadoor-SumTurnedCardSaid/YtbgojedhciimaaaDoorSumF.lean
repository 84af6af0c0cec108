/-
  The reference's sum, walked by hand: bit by bit.
-/
import Derived.Test.YtbgojedhciimaaaDoorSumC
namespace Go.Proofs.YtbgojedhciimaaaDoor.SumF
open Go.RowKit Go.Proofs.YtbgojedhciimaaaDoorW.PrintWords Go.Proofs.YtbgojedhciimaaaDoor.SumH
set_option linter.unusedVariables false
theorem bits_and1_u32 (a : Nat) (ha : a < 4294967296) : bits .and .u32 (a : Int) 1 = ((a % 2 : Nat) : Int) := by
  have := bits_mask .u32 32 (by decide) (fun n h0 h1 => by rw [IntKind.wrap_u32]; omega) 1 (by decide) (a : Int) (by omega) (by omega)
  have e : ((2 : Int) ^ 1 - 1) = 1 := rfl
  rw [e] at this
  rw [this]; omega
set_option maxHeartbeats 400000 in
theorem ref_add (c0 : Nat) (s : ByteArray) (w : World) (hs : s.size ≤ 140737488351232) (hc0 : c0 < 4294967296) :
    Calls Tryd.prog 13 #[.int .u32 (c0 : Int), .string s] w fun e w' => e = .returned (.int .u32 (Crc.crc c0 s.data.toList : Nat)) ∧ w' = w := by
  go_enter Tryd.func13, Tryd.ntmps13
  go_wp2
  go_loop [0, 5, 6] (fun cv i i6 => ∃ (k : Nat), k ≤ s.size ∧ i = .int .i64 k ∧ cv = .int .u32 (Crc.run (Crc.inv c0) (s.data.toList.take k) : Nat)) (fun _ i _ => s.size - (intOf i).toNat)
  case atStart => exact ⟨0, Nat.zero_le _, rfl, val_int (bits_inv_u32 c0 hc0)⟩
  case round =>
    obtain ⟨k, hk, rfl, rfl⟩ := hrel
    obtain ⟨c, hcd⟩ : ∃ c : Nat, c = Crc.run (Crc.inv c0) (s.data.toList.take k) := ⟨_, rfl⟩
    have hc : c < 4294967296 := by rw [hcd]; exact Crc.run_lt _ _ (Crc.inv_lt _ (by omega))
    rw [← hcd]
    by_cases hlt : k < s.size
    · have hst : Crc.run (Crc.inv c0) (s.data.toList.take (k + 1)) = Crc.feed c s[k] := by
        rw [take_snoc s k hlt, Crc.run_append, ← hcd]; rfl
      have Hst := Lib.hid hst
      have Hcd := Lib.hid hcd
      clear hst hcd
      have hx := bits_xor_u32 c s[k].toNat hc (Nat.lt_of_lt_of_le s[k].toNat_lt (by decide))
      have hB2 : (s[k].toNat : Int) % 4294967296 = s[k].toNat := by have := s[k].toNat_lt; omega
      obtain ⟨x, hxd⟩ : ∃ x : Nat, x = c ^^^ s[k].toNat := ⟨_, rfl⟩
      rw [← hxd] at hx
      have hxl : x < 4294967296 := by rw [hxd]; exact Nat.xor_lt_two_pow (n := 32) hc (Nat.lt_of_lt_of_le s[k].toNat_lt (by decide))
      have Hxd := Lib.hid hxd
      clear hxd
      go_wp2
      clear hx hB2
      go_loop [0, 6] (fun cv j => ∃ (q : Nat), q ≤ 8 ∧ j = .int .i64 q ∧ cv = .int .u32 (Crc.iter q x : Nat)) (fun _ j => 8 - (intOf j).toNat)
      case atStart => exact ⟨0, by omega, rfl, rfl⟩
      case round =>
        obtain ⟨q, hq, rfl, rfl⟩ := hrel
        by_cases hlt2 : q < 8
        · obtain ⟨d, hdd⟩ : ∃ d : Nat, d = Crc.iter q x := ⟨_, rfl⟩
          have hd : d < 4294967296 := by rw [hdd]; exact Crc.iter_lt _ _ hxl
          rw [← hdd]
          have hst2 : Crc.iter (q + 1) x = Crc.step d := by
            rw [Crc.iter_add, ← hdd]; rfl
          have h1 := bits_and1_u32 d hd
          have h3 := bits_xor_u32 (d / 2) 2197175160 (by omega) (by decide)
          have Hst2 := Lib.hid hst2
          clear hdd hst2
          by_cases hodd : d % 2 = 1
          · have h2 : (bits .and .u32 (d : Int) 1 == 1) = true := by rw [h1, hodd]; rfl
            have hst3 : Crc.iter (q + 1) x = (d / 2) ^^^ 2197175160 := by rw [Hst2.out, Crc.step, if_pos hodd]; rfl
            have Hst3 := Lib.hid hst3
            clear hst3 hodd
            have H1 := Lib.hid h1
            have H3 := Lib.hid h3
            clear h1 h3
            go_wp2
            go_roundw
            case rel => exact ⟨q + 1, by omega, by go_num, val_int (by rw [Hst3.out, ← H3.out]; rfl)⟩
            case measure => simp [intOf]; omega
          · have h2 : (bits .and .u32 (d : Int) 1 == 1) = false := by
              rw [h1, beq_eq_false_iff_ne]; omega
            have hst3 : Crc.iter (q + 1) x = d / 2 := by rw [Hst2.out, Crc.step, if_neg hodd]
            have Hst3 := Lib.hid hst3
            clear hst3 hodd
            have H1 := Lib.hid h1
            clear h1 h3
            go_wp2
            go_roundw
            case rel => exact ⟨q + 1, by omega, by go_num, val_int (by rw [Hst3.out]; rfl)⟩
            case measure => simp [intOf]; omega
        · go_wp2
          go_round
          case rel => exact ⟨k + 1, by omega, by go_num, val_int (by rw [Hst.out, Crc.feed, ← Hxd.out, show q = 8 by omega])⟩
          case measure => simp [intOf]; omega
    · go_wp2
      go_ret
      refine ⟨ret_int ?_, rfl⟩
      rw [← hcd, bits_inv_u32 c hc, hcd, List.take_of_length_le (by simp; omega)]; rfl
set_option maxHeartbeats 400000 in
theorem ref_of  (s : ByteArray) (w : World) (hs : s.size ≤ 140737488351232)  :
    Calls Tryd.prog 11 #[.string s] w fun e w' => e = .returned (.int .u32 (Crc.crc 0 s.data.toList : Nat)) ∧ w' = w := by
  go_enter Tryd.func11, Tryd.ntmps11
  go_wp2
  go_loop [3, 4, 5] (fun cv i i6 => ∃ (k : Nat), k ≤ s.size ∧ i = .int .i64 k ∧ cv = .int .u32 (Crc.run (Crc.inv 0) (s.data.toList.take k) : Nat)) (fun _ i _ => s.size - (intOf i).toNat)
  case atStart => exact ⟨0, Nat.zero_le _, rfl, val_int (show (4294967295 : Int) = ((Crc.inv 0 : Nat) : Int) by decide)⟩
  case round =>
    obtain ⟨k, hk, rfl, rfl⟩ := hrel
    obtain ⟨c, hcd⟩ : ∃ c : Nat, c = Crc.run (Crc.inv 0) (s.data.toList.take k) := ⟨_, rfl⟩
    have hc : c < 4294967296 := by rw [hcd]; exact Crc.run_lt _ _ (Crc.inv_lt _ (by omega))
    rw [← hcd]
    by_cases hlt : k < s.size
    · have hst : Crc.run (Crc.inv 0) (s.data.toList.take (k + 1)) = Crc.feed c s[k] := by
        rw [take_snoc s k hlt, Crc.run_append, ← hcd]; rfl
      have Hst := Lib.hid hst
      have Hcd := Lib.hid hcd
      clear hst hcd
      have hx := bits_xor_u32 c s[k].toNat hc (Nat.lt_of_lt_of_le s[k].toNat_lt (by decide))
      have hB2 : (s[k].toNat : Int) % 4294967296 = s[k].toNat := by have := s[k].toNat_lt; omega
      obtain ⟨x, hxd⟩ : ∃ x : Nat, x = c ^^^ s[k].toNat := ⟨_, rfl⟩
      rw [← hxd] at hx
      have hxl : x < 4294967296 := by rw [hxd]; exact Nat.xor_lt_two_pow (n := 32) hc (Nat.lt_of_lt_of_le s[k].toNat_lt (by decide))
      have Hxd := Lib.hid hxd
      clear hxd
      go_wp2
      clear hx hB2
      go_loop [3, 5] (fun cv j => ∃ (q : Nat), q ≤ 8 ∧ j = .int .i64 q ∧ cv = .int .u32 (Crc.iter q x : Nat)) (fun _ j => 8 - (intOf j).toNat)
      case atStart => exact ⟨0, by omega, rfl, rfl⟩
      case round =>
        obtain ⟨q, hq, rfl, rfl⟩ := hrel
        by_cases hlt2 : q < 8
        · obtain ⟨d, hdd⟩ : ∃ d : Nat, d = Crc.iter q x := ⟨_, rfl⟩
          have hd : d < 4294967296 := by rw [hdd]; exact Crc.iter_lt _ _ hxl
          rw [← hdd]
          have hst2 : Crc.iter (q + 1) x = Crc.step d := by
            rw [Crc.iter_add, ← hdd]; rfl
          have h1 := bits_and1_u32 d hd
          have h3 := bits_xor_u32 (d / 2) 2197175160 (by omega) (by decide)
          have Hst2 := Lib.hid hst2
          clear hdd hst2
          by_cases hodd : d % 2 = 1
          · have h2 : (bits .and .u32 (d : Int) 1 == 1) = true := by rw [h1, hodd]; rfl
            have hst3 : Crc.iter (q + 1) x = (d / 2) ^^^ 2197175160 := by rw [Hst2.out, Crc.step, if_pos hodd]; rfl
            have Hst3 := Lib.hid hst3
            clear hst3 hodd
            have H1 := Lib.hid h1
            have H3 := Lib.hid h3
            clear h1 h3
            go_wp2
            go_roundw
            case rel => exact ⟨q + 1, by omega, by go_num, val_int (by rw [Hst3.out, ← H3.out]; rfl)⟩
            case measure => simp [intOf]; omega
          · have h2 : (bits .and .u32 (d : Int) 1 == 1) = false := by
              rw [h1, beq_eq_false_iff_ne]; omega
            have hst3 : Crc.iter (q + 1) x = d / 2 := by rw [Hst2.out, Crc.step, if_neg hodd]
            have Hst3 := Lib.hid hst3
            clear hst3 hodd
            have H1 := Lib.hid h1
            clear h1 h3
            go_wp2
            go_roundw
            case rel => exact ⟨q + 1, by omega, by go_num, val_int (by rw [Hst3.out]; rfl)⟩
            case measure => simp [intOf]; omega
        · go_wp2
          go_round
          case rel => exact ⟨k + 1, by omega, by go_num, val_int (by rw [Hst.out, Crc.feed, ← Hxd.out, show q = 8 by omega])⟩
          case measure => simp [intOf]; omega
    · go_wp2
      go_ret
      refine ⟨ret_int ?_, rfl⟩
      rw [← hcd, bits_inv_u32 c hc, hcd, List.take_of_length_le (by simp; omega)]; rfl
end Go.Proofs.YtbgojedhciimaaaDoor.SumF
