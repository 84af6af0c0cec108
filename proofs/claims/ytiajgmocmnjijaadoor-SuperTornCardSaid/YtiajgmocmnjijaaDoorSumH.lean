import Derived.Test.YtiajgmocmnjijaaDoorProg
import Derived.Test.YtiajgmocmnjijaaDoorCrc
import Derived.WalkKit
import Derived.Handy
import Derived.WalkLawsBesides
import Derived.WalkSpells
import Derived.Lib.Hide
import Derived.Laws.BitsLemmas
import Derived.Below
import Derived.Deep.Draws
import Derived.Test.YtiajgmocmnjijaaDoorWWords
namespace Go.Proofs.YtiajgmocmnjijaaDoor.SumH
open Go.RowKit Go.Proofs.YtiajgmocmnjijaaDoorW.PrintWords
set_option linter.unusedVariables false
/-- The table lies where it was laid. -/
structure Glob (w : World) : Prop where
  cell : ∀ i, i < 16 → w.cell? ⟨0, i, none⟩ = some (.int .u32 ((Crc.tab.getD i 0 : Nat) : Int))
theorem Glob.lt {w : World} (h : Glob w) : 0 < w.heap.size := World.block_lt_of_cell? w _ (h.cell 0 (by decide))
theorem Glob.below {w w' : World} (h : Glob w) (hb : Below w.heap.size w w') : Glob w' := ⟨fun i hi => (hb.cell (p := ⟨0, i, none⟩) h.lt).trans (h.cell i hi)⟩
theorem Glob.drew {w : World} (h : Glob w) : Glob w.drew := ⟨fun i hi => h.cell i hi⟩
theorem Glob.drewN {w : World} (h : Glob w) (n : Nat) : Glob (w.drewN n) := ⟨fun i hi => h.cell i hi⟩
theorem bits_xor_u32 (a b : Nat) (ha : a < 4294967296) (hb : b < 4294967296) : bits .xor .u32 (a : Int) (b : Int) = ((a ^^^ b : Nat) : Int) := by
  have hx : a ^^^ b < 2 ^ 32 := Nat.xor_lt_two_pow (by omega) (by omega)
  have h1 : bits .xor .u32 (a : Int) (b : Int) = IntKind.u32.wrap ((BitVec.ofNat 32 a ^^^ BitVec.ofNat 32 b : BitVec 32).toNat : Int) := by
    simp only [bits, BitVec.ofInt_natCast]; rfl
  rw [h1, BitVec.toNat_xor, BitVec.toNat_ofNat, BitVec.toNat_ofNat, Nat.mod_eq_of_lt (show a < 2 ^ 32 by omega), Nat.mod_eq_of_lt (show b < 2 ^ 32 by omega), IntKind.wrap_u32]
  omega
theorem max_u32 : IntKind.u32.max = ((4294967295 : Nat) : Int) := rfl
theorem bits_and15_u32 (a : Nat) (ha : a < 4294967296) : bits .and .u32 (a : Int) 15 = ((a % 16 : Nat) : Int) := by
  have := bits_mask .u32 32 (by decide) (fun n h0 h1 => by rw [IntKind.wrap_u32]; omega) 4 (by decide) (a : Int) (by omega) (by omega)
  have e : ((2 : Int) ^ 4 - 1) = 15 := rfl
  rw [e] at this
  rw [this]; omega
theorem bits_inv_u32 (a : Nat) (ha : a < 4294967296) : bits .xor .u32 IntKind.u32.max (a : Int) = ((Crc.inv a : Nat) : Int) := by
  rw [max_u32, bits_xor_u32 _ _ (by decide) ha, Nat.xor_comm]; rfl
theorem take_snoc (s : ByteArray) (k : Nat) (h : k < s.size) : s.data.toList.take (k + 1) = s.data.toList.take k ++ [s[k]] := by
  rw [List.take_succ_eq_append_getElem (by simpa using h)]; rfl
theorem ret_int {k : IntKind} {a b : Int} (h : a = b) : Ending.returned (.int k a) = .returned (.int k b) := by rw [h]
theorem val_int {k : IntKind} {a b : Int} (h : a = b) : Value.int k a = .int k b := by rw [h]
set_option maxHeartbeats 400000 in
theorem add_any (c0 : Nat) (s : ByteArray) (w : World) (hc0 : c0 < 4294967296) (hs : s.size ≤ 140737488351232) (hg : Glob w) :
    Calls Tryd.prog 48 #[.int .u32 c0, .string s] w fun e w' => e = .returned (.int .u32 (Crc.crc c0 s.data.toList : Nat)) ∧ w' = w := by
  go_enter Tryd.func48, Tryd.ntmps48
  go_wp2
  go_loop [0, 5, 10] (fun cv i5 i => ∃ (k : Nat), k ≤ s.size ∧ i = .int .i64 k ∧ cv = .int .u32 (Crc.run (Crc.inv c0) (s.data.toList.take k) : Nat)) (fun _ _ i => s.size - (intOf i).toNat)
  case atStart => exact ⟨0, Nat.zero_le _, rfl, val_int (bits_inv_u32 c0 hc0)⟩
  case round =>
    obtain ⟨k, hk, rfl, rfl⟩ := hrel
    obtain ⟨c, hcd⟩ : ∃ c : Nat, c = Crc.run (Crc.inv c0) (s.data.toList.take k) := ⟨_, rfl⟩
    have hc : c < 4294967296 := by rw [hcd]; exact Crc.run_lt _ _ (Crc.inv_lt _ (by omega))
    rw [← hcd]
    by_cases hlt : k < s.size
    · have hst : Crc.run (Crc.inv c0) (s.data.toList.take (k + 1)) = Crc.feed c s[k] := by
        rw [take_snoc s k hlt, Crc.run_append, ← hcd]; rfl
      have Hst := Lib.hid hst
      have Hcd := Lib.hid hcd
      clear hst hcd
      have hx := bits_xor_u32 c s[k].toNat hc (Nat.lt_of_lt_of_le s[k].toNat_lt (by decide))
      have hB2 : (s[k].toNat : Int) % 4294967296 = s[k].toNat := by have := s[k].toNat_lt; omega
      obtain ⟨x, hxd⟩ : ∃ x : Nat, x = c ^^^ s[k].toNat := ⟨_, rfl⟩
      rw [← hxd] at hx
      have hxl : x < 4294967296 := by rw [hxd]; exact Nat.xor_lt_two_pow (n := 32) hc (Nat.lt_of_lt_of_le s[k].toNat_lt (by decide))
      have Hxd := Lib.hid hxd
      clear hxd
      go_wp2
      clear hx hB2
      go_loop [0, 19] (fun cv j => ∃ (q : Nat), q ≤ 2 ∧ j = .int .i64 q ∧ cv = .int .u32 (Crc.iter (4 * q) x : Nat)) (fun _ j => 2 - (intOf j).toNat)
      case atStart => exact ⟨0, by omega, rfl, rfl⟩
      case round =>
        obtain ⟨q, hq, rfl, rfl⟩ := hrel
        by_cases hlt2 : q < 2
        · obtain ⟨d, hdd⟩ : ∃ d : Nat, d = Crc.iter (4 * q) x := ⟨_, rfl⟩
          have hd : d < 4294967296 := by rw [hdd]; exact Crc.iter_lt _ _ hxl
          rw [← hdd]
          have hst2 : Crc.iter (4 * (q + 1)) x = (d / 16) ^^^ Crc.tab.getD (d % 16) 0 := by
            rw [Nat.mul_add, Nat.mul_one, Crc.iter_add, ← hdd, Crc.nib_eq]
          have htl : Crc.tab.getD (d % 16) 0 < 4294967296 := by
            have : ∀ i, i < 16 → Crc.tab.getD i 0 < 4294967296 := by decide
            exact this _ (by omega)
          have h1 := bits_and15_u32 d hd
          have hc' := hg.cell (d % 16) (by omega)
          obtain ⟨t, ht⟩ : ∃ t : Nat, t = Crc.tab.getD (d % 16) 0 := ⟨_, rfl⟩
          rw [← ht] at hc' htl hst2
          have Hst2 := Lib.hid hst2
          clear ht hdd hst2
          go_wp2
          go_roundw
          case rel => exact ⟨q + 1, by omega, by go_num, val_int (by rw [Hst2.out, ← bits_xor_u32 _ _ (by omega) htl]; rfl)⟩
          case measure => simp [intOf]; omega
        · go_wp2
          go_round
          case rel => exact ⟨k + 1, by omega, by go_num, val_int (by rw [Hst.out, Crc.feed, ← Hxd.out, show q = 2 by omega])⟩
          case measure => simp [intOf]; omega
    · go_wp2
      go_ret
      refine ⟨ret_int ?_, rfl⟩
      rw [← hcd, bits_inv_u32 c hc, hcd, List.take_of_length_le (by simp; omega)]; rfl
def add_f (c : Int) (s : ByteArray) : Option Int := if 0 ≤ c ∧ c < 4294967296 ∧ s.size ≤ 140737488351232 then some ((Crc.crc c.toNat s.data.toList : Nat) : Int) else none
theorem sum_Add.calls (a0 : Int) (a1 : ByteArray) (r : Int) (w : World) (hG : Glob w) (h : add_f a0 a1 = some r) :
    Calls Tryd.prog 48 #[.int .u32 a0, .string a1] w fun e w' => e = .returned (.int .u32 r) ∧ Drawn0 w w' := by
  unfold add_f at h
  split at h
  · rename_i hc
    obtain ⟨h0, h1, h2⟩ := hc
    obtain ⟨c, rfl⟩ := Int.eq_ofNat_of_zero_le h0
    cases h
    refine (add_any c a1 w (by omega) h2 hG).mono fun e w' ⟨he, hw⟩ => ⟨he, hw ▸ Drawn0.refl w⟩
  · cases h
end Go.Proofs.YtiajgmocmnjijaaDoor.SumH
