/-
  By hand for the pages: the reference's Of, and strings.Repeat (the shelf's contract laid at this program: PagK).
-/
import Derived.Test.YtiajgmocmnjijaaDoorSumH
import Derived.Test.YtiajgmocmnjijaaDoorPagK
namespace Go.Proofs.YtiajgmocmnjijaaDoor.PagH
open Go.RowKit Go.Proofs.YtiajgmocmnjijaaDoorW.PrintWords Go.Proofs.YtiajgmocmnjijaaDoor.SumH
set_option linter.unusedVariables false
theorem bits_and1_u32 (a : Nat) (ha : a < 4294967296) : bits .and .u32 (a : Int) 1 = ((a % 2 : Nat) : Int) := by
  have := bits_mask .u32 32 (by decide) (fun n h0 h1 => by rw [IntKind.wrap_u32]; omega) 1 (by decide) (a : Int) (by omega) (by omega)
  have e : ((2 : Int) ^ 1 - 1) = 1 := rfl
  rw [e] at this
  rw [this]; omega
set_option maxHeartbeats 400000 in
theorem ref_of  (s : ByteArray) (w : World) (hs : s.size ≤ 140737488351232)  :
    Calls Tryd.prog 33 #[.string s] w fun e w' => e = .returned (.int .u32 (Crc.crc 0 s.data.toList : Nat)) ∧ w' = w := by
  go_enter Tryd.func33, Tryd.ntmps33
  go_wp2
  go_loop [3, 4, 5] (fun cv i i6 => ∃ (k : Nat), k ≤ s.size ∧ i = .int .i64 k ∧ cv = .int .u32 (Crc.run (Crc.inv 0) (s.data.toList.take k) : Nat)) (fun _ i _ => s.size - (intOf i).toNat)
  case atStart => exact ⟨0, Nat.zero_le _, rfl, val_int (show (4294967295 : Int) = ((Crc.inv 0 : Nat) : Int) by decide)⟩
  case round =>
    obtain ⟨k, hk, rfl, rfl⟩ := hrel
    obtain ⟨c, hcd⟩ : ∃ c : Nat, c = Crc.run (Crc.inv 0) (s.data.toList.take k) := ⟨_, rfl⟩
    have hc : c < 4294967296 := by rw [hcd]; exact Crc.run_lt _ _ (Crc.inv_lt _ (by omega))
    rw [← hcd]
    by_cases hlt : k < s.size
    · have hst : Crc.run (Crc.inv 0) (s.data.toList.take (k + 1)) = Crc.feed c s[k] := by
        rw [take_snoc s k hlt, Crc.run_append, ← hcd]; rfl
      have Hst := Lib.hid hst
      have Hcd := Lib.hid hcd
      clear hst hcd
      have hx := bits_xor_u32 c s[k].toNat hc (Nat.lt_of_lt_of_le s[k].toNat_lt (by decide))
      have hB2 : (s[k].toNat : Int) % 4294967296 = s[k].toNat := by have := s[k].toNat_lt; omega
      obtain ⟨x, hxd⟩ : ∃ x : Nat, x = c ^^^ s[k].toNat := ⟨_, rfl⟩
      rw [← hxd] at hx
      have hxl : x < 4294967296 := by rw [hxd]; exact Nat.xor_lt_two_pow (n := 32) hc (Nat.lt_of_lt_of_le s[k].toNat_lt (by decide))
      have Hxd := Lib.hid hxd
      clear hxd
      go_wp2
      clear hx hB2
      go_loop [3, 5] (fun cv j => ∃ (q : Nat), q ≤ 8 ∧ j = .int .i64 q ∧ cv = .int .u32 (Crc.iter q x : Nat)) (fun _ j => 8 - (intOf j).toNat)
      case atStart => exact ⟨0, by omega, rfl, rfl⟩
      case round =>
        obtain ⟨q, hq, rfl, rfl⟩ := hrel
        by_cases hlt2 : q < 8
        · obtain ⟨d, hdd⟩ : ∃ d : Nat, d = Crc.iter q x := ⟨_, rfl⟩
          have hd : d < 4294967296 := by rw [hdd]; exact Crc.iter_lt _ _ hxl
          rw [← hdd]
          have hst2 : Crc.iter (q + 1) x = Crc.step d := by
            rw [Crc.iter_add, ← hdd]; rfl
          have h1 := bits_and1_u32 d hd
          have h3 := bits_xor_u32 (d / 2) 2197175160 (by omega) (by decide)
          have Hst2 := Lib.hid hst2
          clear hdd hst2
          by_cases hodd : d % 2 = 1
          · have h2 : (bits .and .u32 (d : Int) 1 == 1) = true := by rw [h1, hodd]; rfl
            have hst3 : Crc.iter (q + 1) x = (d / 2) ^^^ 2197175160 := by rw [Hst2.out, Crc.step, if_pos hodd]; rfl
            have Hst3 := Lib.hid hst3
            clear hst3 hodd
            have H1 := Lib.hid h1
            have H3 := Lib.hid h3
            clear h1 h3
            go_wp2
            go_roundw
            case rel => exact ⟨q + 1, by omega, by go_num, val_int (by rw [Hst3.out, ← H3.out]; rfl)⟩
            case measure => simp [intOf]; omega
          · have h2 : (bits .and .u32 (d : Int) 1 == 1) = false := by
              rw [h1, beq_eq_false_iff_ne]; omega
            have hst3 : Crc.iter (q + 1) x = d / 2 := by rw [Hst2.out, Crc.step, if_neg hodd]
            have Hst3 := Lib.hid hst3
            clear hst3 hodd
            have H1 := Lib.hid h1
            clear h1 h3
            go_wp2
            go_roundw
            case rel => exact ⟨q + 1, by omega, by go_num, val_int (by rw [Hst3.out]; rfl)⟩
            case measure => simp [intOf]; omega
        · go_wp2
          go_round
          case rel => exact ⟨k + 1, by omega, by go_num, val_int (by rw [Hst.out, Crc.feed, ← Hxd.out, show q = 8 by omega])⟩
          case measure => simp [intOf]; omega
    · go_wp2
      go_ret
      refine ⟨ret_int ?_, rfl⟩
      rw [← hcd, bits_inv_u32 c hc, hcd, List.take_of_length_le (by simp; omega)]; rfl
def rof_f (s : ByteArray) : Option Int := if s.size ≤ 140737488351232 then some ((Crc.crc 0 s.data.toList : Nat) : Int) else none
theorem rof_calls (a0 : ByteArray) (r : Int) (w : World) (h : rof_f a0 = some r) : Calls Tryd.prog 33 #[.string a0] w fun e w' => e = .returned (.int .u32 r) ∧ Below w.heap.size w w' := by
  unfold rof_f at h
  split at h
  · rename_i hs
    obtain rfl := Option.some.inj h
    exact (ref_of a0 w hs).mono fun e w' ⟨he, hw⟩ => ⟨he, by rw [hw]; exact Below.refl _ w⟩
  · cases h
/-- Copies of a text. -/
def repB (s : ByteArray) (c : Nat) : ByteArray := ⟨(Lib.repeatL s.data.toList c).toArray⟩
def rep_f (s : ByteArray) (c : Int) : Option ByteArray := if 0 ≤ c ∧ c ≤ 9223372036854775807 ∧ s.size * c.toNat ≤ 140737488355328 then some (repB s c.toNat) else none
theorem rep_calls (a0 : ByteArray) (a1 : Int) (r : ByteArray) (w : World) (h : rep_f a0 a1 = some r) : Calls Tryd.prog 28 #[.string a0, .int .i64 a1] w fun e w' => e = .returned (.string r) ∧ Below w.heap.size w w' := by
  unfold rep_f at h
  split at h
  · rename_i hs
    obtain rfl := Option.some.inj h
    obtain ⟨n, rfl⟩ := Int.eq_ofNat_of_zero_le hs.1
    have h2 := hs.2.2
    rw [Int.toNat_natCast] at h2 ⊢
    exact Tryd.strings_Repeat a0 n w (by omega) h2
  · cases h
end Go.Proofs.YtiajgmocmnjijaaDoor.PagH
