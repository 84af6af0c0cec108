/-
  The law SumTurned, walked by hand over the contracts.
-/
import Derived.Test.YtbgojedhciimaaaDoorSumR
import Derived.Test.YtbgojedhciimaaaDoorSumF
import Derived.Lib.ConvBytes
import Derived.Laws.BytesArg
namespace Go.Proofs.YtbgojedhciimaaaDoor.SumB
open Go.RowKit Go.Proofs.YtbgojedhciimaaaDoorW.PrintWords Go.Proofs.YtbgojedhciimaaaDoor.PSum Go.Proofs.YtbgojedhciimaaaDoor.SumH Go.Proofs.YtbgojedhciimaaaDoor.SumL Go.Proofs.YtbgojedhciimaaaDoor.SumC Go.Proofs.YtbgojedhciimaaaDoor.Cm
open Str (str_size)
open SumR (wakes_c)
open SumF (bits_and1_u32)
set_option linter.unusedVariables false
/-! ### One bit turned -/
def flip (l : List UInt8) (j : Nat) : List UInt8 := l.set (j / 8) (UInt8.ofNat ((l.getD (j / 8) 0).toNat ^^^ 2 ^ (j % 8)))
theorem flip_len (l : List UInt8) (j : Nat) : (flip l j).length = l.length := by simp [flip]
theorem two_lt (j : Nat) : 2 ^ (j % 8) < 256 := by
  have h : ∀ m, m < 8 → 2 ^ m < 256 := by decide
  exact h _ (by omega)
theorem leNum_flip (l : List UInt8) : ∀ j, j < 8 * l.length → Crc.leNum (flip l j) = Crc.leNum l ^^^ 2 ^ j := by
  induction l with
  | nil => intro j h; simp at h
  | cons b l ih =>
    intro j h
    by_cases h8 : j < 8
    · have e1 : j / 8 = 0 := by omega
      have e2 : j % 8 = j := by omega
      have hlt := two_lt j
      rw [e2] at hlt
      have hx : b.toNat ^^^ 2 ^ j < 256 := Nat.xor_lt_two_pow (n := 8) b.toNat_lt hlt
      simp only [flip, e1, e2, List.set_cons_zero, List.getD_cons_zero]
      rw [Crc.leNum_cons, Crc.leNum_cons, UInt8.toNat_ofNat', Nat.mod_eq_of_lt hx, Nat.xor_assoc]
    · obtain ⟨m, rfl⟩ : ∃ m, j = m + 8 := ⟨j - 8, by omega⟩
      have e1 : (m + 8) / 8 = m / 8 + 1 := by omega
      have e2 : (m + 8) % 8 = m % 8 := by omega
      have e3 : flip (b :: l) (m + 8) = b :: flip l m := by
        simp only [flip, e1, e2, List.set_cons_succ, List.getD_cons_succ]
      rw [e3, Crc.leNum_cons, Crc.leNum_cons, ih m (by simp at h; omega), Crc.mul_xor, Nat.pow_add, Nat.mul_comm (2 ^ m) (2 ^ 8), Nat.xor_assoc, Nat.xor_assoc, Nat.xor_comm b.toNat]
theorem mod_succ (x i : Nat) : x % 2 ^ (i + 1) = (x % 2 ^ i) ^^^ (if x / 2 ^ i % 2 = 1 then 2 ^ i else 0) := by
  have h1 : x % 2 ^ (i + 1) = 2 ^ i * (x / 2 ^ i % 2) + x % 2 ^ i := by
    rw [Nat.pow_succ, Nat.mod_mul]; omega
  rw [h1, Crc.add_eq_xor i _ _ (Nat.mod_lt _ (Nat.two_pow_pos i))]
  have := Nat.mod_two_eq_zero_or_one (x / 2 ^ i)
  rcases this with h | h
  · rw [h]; simp
  · rw [h]; simp [Nat.xor_comm]
theorem turn_step (l0 l : List UInt8) (x k i : Nat) (h : Crc.leNum l = Crc.leNum l0 ^^^ (2 ^ k * (x % 2 ^ i))) (hk : k + i < 8 * l.length) (hb : x / 2 ^ i % 2 = 1) :
    Crc.leNum (flip l (k + i)) = Crc.leNum l0 ^^^ (2 ^ k * (x % 2 ^ (i + 1))) := by
  rw [leNum_flip l _ hk, h, mod_succ, if_pos hb, Crc.mul_xor, Nat.xor_assoc, ← Nat.pow_add]
theorem keep_step (l0 l : List UInt8) (x k i : Nat) (h : Crc.leNum l = Crc.leNum l0 ^^^ (2 ^ k * (x % 2 ^ i))) (hb : ¬ x / 2 ^ i % 2 = 1) :
    Crc.leNum l = Crc.leNum l0 ^^^ (2 ^ k * (x % 2 ^ (i + 1))) := by
  rw [mod_succ, if_neg hb, Nat.xor_zero]; exact h
theorem turned_step (x i : Nat) (hb : x / 2 ^ i % 2 = 1) : decide (x % 2 ^ (i + 1) ≠ 0) = true := by
  rw [decide_eq_true_iff]
  intro h
  have h1 : x % 2 ^ (i + 1) = 2 ^ i * (x / 2 ^ i % 2) + x % 2 ^ i := by
    rw [Nat.pow_succ, Nat.mod_mul]; omega
  have := Nat.two_pow_pos i
  rw [hb] at h1; omega
theorem kept_step (x i : Nat) (hb : ¬ x / 2 ^ i % 2 = 1) : decide (x % 2 ^ (i + 1) ≠ 0) = decide (x % 2 ^ i ≠ 0) := by
  rw [mod_succ, if_neg hb, Nat.xor_zero]
theorem xor_bit (b : UInt8) (j : Nat) : bits BinOp.xor IntKind.u8 (b.toNat : Int) (2 ^ (j % 8) % 256) = (((UInt8.ofNat (b.toNat ^^^ 2 ^ (j % 8))).toNat : Nat) : Int) := by
  have hlt := two_lt j
  have e : ((2 : Int) ^ (j % 8) % 256) = (((UInt8.ofNat (2 ^ (j % 8))).toNat : Nat) : Int) := by
    rw [UInt8.toNat_ofNat', Nat.mod_eq_of_lt hlt]
    have : ((2 : Int) ^ (j % 8)) = ((2 ^ (j % 8) : Nat) : Int) := by simp
    rw [this]; clear this; revert hlt; generalize (2 ^ (j % 8) : Nat) = m; intro hlt; omega
  rw [e, bits_xor_u8, UInt8.toNat_xor, UInt8.toNat_ofNat', UInt8.toNat_ofNat', Nat.mod_eq_of_lt hlt, Nat.mod_eq_of_lt (Nat.xor_lt_two_pow (n := 8) b.toNat_lt hlt)]
/-- The bytes of a row of one's own. -/
structure Row (w : World) (B : Nat) (l : List UInt8) : Prop where
  cell : ∀ j (h : j < l.length), w.cell? ⟨B, j, none⟩ = some (.int .u8 ((l[j].toNat : Nat) : Int))
  free : ∀ j, j < l.length → w.frozen? ⟨B, j, none⟩ = false
theorem Row.set {w : World} {B : Nat} {l : List UInt8} (h : Row w B l) (j : Nat) (hj : j < l.length) (v : UInt8) : Row (w.setCell ⟨B, j, none⟩ (.int .u8 ((v.toNat : Nat) : Int))) B (l.set j v) := by
  refine ⟨fun i hi => ?_, fun i hi => ?_⟩
  · rw [List.length_set] at hi
    rw [List.getElem_set]
    by_cases e : j = i
    · subst e
      rw [if_pos rfl, World.cell?_setCell_same' _ _ _ (by rw [h.cell j hj]; rfl)]
    · rw [if_neg e, World.cell?_setCell_other _ _ _ _ (by intro c; cases c; exact e rfl), h.cell i hi]
  · rw [List.length_set] at hi
    rw [World.frozen?_setCell]; exact h.free i hi
theorem Row.init (w : World) (e : Nat) (s : ByteArray) (l : List UInt8) (hl : l = s.data.toList) : Row (Lib.bytesWorld w e s) w.heap.size l := by
  have hs : l.length = s.size := by rw [hl]; exact data_length s
  refine ⟨fun j h => ?_, fun j h => ?_⟩
  · rw [Lib.bytesWorld_cell w _ s j (by omega), ← hl]
    simp [List.getD, h]
  · simp only [World.frozen?, Lib.bytesWorld_at_new]
    have hz : s.size ≤ (Lib.bytesCells w e s).size := by
      simp [Lib.bytesCells]
    have : ¬ (Lib.bytesCells w e s).size ≤ j := by omega
    simp [this]
set_option maxHeartbeats 2000000 in
theorem walk (a : ByteArray) (at_ by_ : Int) (w : World) (hG : Glob w) (hwa : a.size ≤ 140737488351232) (hwf : (Lit.int .u16 at_).wf = true) (hwf2 : (Lit.int .u32 by_).wf = true) :
    Calls Tryd.prog 5 #[.string a, .int .u16 at_, .int .u32 by_] w fun e w' => e = .returned (.bool true) ∧ Below w.heap.size w w' := by
  have hm : IntKind.u16.min ≤ at_ ∧ at_ ≤ IntKind.u16.max := by simpa [Lit.wf] using hwf
  have hm2 : IntKind.u32.min ≤ by_ ∧ by_ ≤ IntKind.u32.max := by simpa [Lit.wf] using hwf2
  have h0 : 0 ≤ at_ := hm.1
  have h1 : at_ < 65536 := by have h2 := hm.2; have : IntKind.u16.max = 65535 := rfl; omega
  have h2 : 0 ≤ by_ := hm2.1
  have h3 : by_ < 4294967296 := by have h2 := hm2.2; have : IntKind.u32.max = 4294967295 := rfl; omega
  clear hm hm2 hwf hwf2
  obtain ⟨t, rfl⟩ := Int.eq_ofNat_of_zero_le h0
  obtain ⟨x, rfl⟩ := Int.eq_ofNat_of_zero_le h2
  have hC3 := Cm.Calm.refl w
  by_cases hz : a.size = 0
  · have ha' : ((a.size : Int) == 0) = true := by rw [beq_iff_eq]; omega
    go_enter Tryd.func5, Tryd.ntmps5
    go_wp2_with (go_at_call 7; refine ((Calm.call hC3 (wakes_c _ hG)).mono ?_); rintro e w1 ⟨rfl, hC1⟩)
    go_ret
    exact ⟨rfl, hC1.below⟩
  · have hz' : ((a.size : Int) == 0) = false := by rw [beq_eq_false_iff_ne]; omega
    by_cases ha : a.size > 600
    · have ha' : decide ((600 : Int) < a.size) = true := by simp; omega
      go_enter Tryd.func5, Tryd.ntmps5
      go_wp2_with (go_at_call 7; refine ((Calm.call hC3 (wakes_c _ hG)).mono ?_); rintro e w1 ⟨rfl, hC1⟩)
      go_ret
      exact ⟨rfl, hC1.below⟩
    · have ha' : decide ((600 : Int) < a.size) = false := by simp; omega
      have hcv := fun W : World => Lib.run_convert_string_bytes (P := Tryd.prog) W 9 32 5 a Tryd.underlying9 Tryd.underlying32 Tryd.underlying5
      go_enter Tryd.func5, Tryd.ntmps5
      go_wp2_with fail
      obtain ⟨n, hn⟩ : ∃ n, n = a.size := ⟨_, rfl⟩
      have hn6 : n ≤ 600 := by omega
      obtain ⟨L0, hL0⟩ : ∃ l, l = a.data.toList := ⟨_, rfl⟩
      have hL0n : L0.length = n := by rw [hL0, hn]; exact data_length a
      obtain ⟨W, hW⟩ : ∃ W, W = Lib.bytesWorld w 5 a := ⟨_, rfl⟩
      obtain ⟨B, hB⟩ : ∃ B, B = w.heap.size := ⟨_, rfl⟩
      obtain ⟨C, hCc⟩ : ∃ C, C = grownCap w a.size 0 5 := ⟨_, rfl⟩
      obtain ⟨k, hk⟩ : ∃ k, k = t % (8 * a.size) := ⟨_, rfl⟩
      have hk1 : (t : Int) % (8 * (a.size : Int)) = (k : Int) := by rw [hk]; simp
      have hklt : k < 8 * a.size := by rw [hk]; exact Nat.mod_lt _ (by omega)
      have hbel : Below B w W := by
        rw [hW, hB]
        exact ⟨rfl, rfl, rfl, by rw [Lib.bytesWorld_size]; omega, fun j hj => Lib.bytesWorld_at_old w _ a j hj⟩
      have hrow : Row W B L0 := by rw [hW, hB]; exact Row.init w _ a L0 hL0
      rw [hk1, ← hW, ← hCc, ← hB]
      clear hk hk1 hW hcv
      rw [← hn] at hklt ha' hz' ⊢
      have Hn := Lib.hid hn
      have HL0 := Lib.hid hL0
      have HB := Lib.hid hB
      have hx32 : x < 4294967296 := by omega
      clear hn hL0 hB hCc hz ha h0 h1 h2 h3
      clear hC3
      go_loopw [9, 10] (fun v9 v10 w' => ∃ (i : Nat) (l : List UInt8), i ≤ 32 ∧ k + i ≤ 8 * n ∧ l.length = n ∧ Crc.leNum l = Crc.leNum L0 ^^^ (2 ^ k * (x % 2 ^ i)) ∧ v10 = .int .i64 i ∧ v9 = .bool (decide (x % 2 ^ i ≠ 0)) ∧ Row w' B l ∧ Below B w w') (fun _ v10 _ => 32 - (intOf v10).toNat)
      case atStart => exact ⟨0, L0, by omega, by omega, hL0n, by simp [Nat.mod_one], rfl, by simp [Nat.mod_one], hrow, hbel⟩
      case round =>
        obtain ⟨i, l, hi, hki, hln, hle, rfl, rfl, hR, hb⟩ := hrel
        have Hle := Lib.hid hle
        have Hln := Lib.hid hln
        clear hle hln
        by_cases hlt : i < 32
        · by_cases hlt2 : k + i < 8 * n
          · by_cases hbit : x / 2 ^ i % 2 = 1
            · have hand : (bits .and .u32 ((x : Int) / 2 ^ i) 1 == 1) = true := by
                have e : ((x : Int) / 2 ^ i) = ((x / 2 ^ i : Nat) : Int) := by simp
                rw [e, bits_and1_u32 _ (Nat.lt_of_le_of_lt (Nat.div_le_self _ _) hx32), hbit]; rfl
              have hql : (k + i) / 8 < l.length := by rw [Hln.out]; omega
              have hqn : (k + i) / 8 < n := by omega
              have hlt2i : (k : Int) + i < 8 * n := by omega
              have hcl := hR.cell _ hql
              have hfr := hR.free _ hql
              have Hbit := Lib.hid hbit
              have Hlt2 := Lib.hid hlt2
              clear hbit hlt2
              have hxor : Row (wr.setCell { block := B, off := (k + i) / 8 } (Value.int IntKind.u8 (bits BinOp.xor IntKind.u8 (l[(k + i) / 8].toNat : Int) (2 ^ ((k + i) % 8) % 256)))) B (flip l (k + i)) := by
                have e := xor_bit l[(k + i) / 8] (k + i)
                rw [e]
                have := hR.set _ hql (UInt8.ofNat (l[(k + i) / 8].toNat ^^^ 2 ^ ((k + i) % 8)))
                have e2 : flip l (k + i) = l.set ((k + i) / 8) (UInt8.ofNat (l[(k + i) / 8].toNat ^^^ 2 ^ ((k + i) % 8))) := by
                  unfold flip; rw [List.getD_eq_getElem?_getD, List.getElem?_eq_getElem hql]; rfl
                rw [e2]; exact this
              have Hxor := Lib.hid hxor
              clear hxor
              go_wp2
              refine ⟨⟨i + 1, flip l (k + i), by omega, by omega, by rw [flip_len, Hln.out], turn_step L0 l x k i Hle.out (by rw [Hln.out]; omega) Hbit.out, by go_num, by rw [turned_step x i Hbit.out], Hxor.out, hb.setCell (Nat.le_refl _) _⟩, ?_⟩
              simp [intOf]; omega
            · have hand : (bits .and .u32 ((x : Int) / 2 ^ i) 1 == 1) = false := by
                have e : ((x : Int) / 2 ^ i) = ((x / 2 ^ i : Nat) : Int) := by simp
                rw [e, bits_and1_u32 _ (Nat.lt_of_le_of_lt (Nat.div_le_self _ _) hx32), beq_eq_false_iff_ne]; omega
              have hlt2i : (k : Int) + i < 8 * n := by omega
              have Hbit := Lib.hid hbit
              have Hlt2 := Lib.hid hlt2
              clear hbit hlt2
              go_wp2
              refine ⟨⟨i + 1, l, by omega, by omega, Hln.out, keep_step L0 l x k i Hle.out Hbit.out, by go_num, by rw [kept_step x i Hbit.out]; simp, hR, hb⟩, ?_⟩
              simp [intOf]; omega
          · have hlt2i : ¬ (k : Int) + i < 8 * n := by omega
            have hlt2i' : decide ((k : Int) + i < 8 * n) = false := decide_eq_false hlt2i
            have hkl : k ≤ 8 * L0.length := by rw [hL0n]; omega
            have hburst := Crc.crc_burst 0 k (x % 2 ^ i) L0 l (by rw [hL0n, Hln.out]) hkl (Nat.lt_of_le_of_lt (Nat.mod_le _ _) hx32) Hle.out
            obtain ⟨S, hS⟩ : ∃ S, S = strOfNums (l.map fun b => (b.toNat : Int)) := ⟨_, rfl⟩
            have hSd : S.data.toList = l := by rw [hS, str_nat]
            have hSs : S.size = n := by rw [hS, str_len, List.length_map, Hln.out]
            obtain ⟨c1, hc1⟩ : ∃ c, c = crcOf S := ⟨_, rfl⟩
            obtain ⟨c2, hc2⟩ : ∃ c, c = crcOf a := ⟨_, rfl⟩
            have hceq : c1 = c2 ↔ x % 2 ^ i = 0 := by rw [hc1, hc2, ← hburst, crcOf, crcOf, hSd, ← HL0.out]; omega
            have C1 := Lib.hid fun W hG => of_c S (by omega) W hG
            have C2 := Lib.hid fun W hG => of_c a hwa W hG
            rw [← hc1] at C1
            rw [← hc2] at C2
            have hcv : ∀ w', Cm.Calm wr w' → (convert 32 9 (.slice (some ⟨B, 0, none⟩) n C)).run Tryd.prog w' = .ok (.string S) w' := by
              intro w' hw
              have hsz : B < wr.heap.size := by
                have h0 : 0 < l.length := by rw [Hln.out]; omega
                exact World.block_lt_of_cell? wr _ (hR.cell 0 h0)
              rw [hS]
              refine run_convert_bytes_arg w' _ 5 Tryd.underlying32 Tryd.underlying5 B 0 n C _ (by rw [List.length_map, Hln.out]) (fun j hj => ?_) _ Tryd.underlying9
              have hjl : j < l.length := by rw [Hln.out]; exact hj
              rw [Nat.zero_add, hw.below.cell (p := ⟨B, j, none⟩) hsz, hR.cell j hjl]
              simp [List.getD, hjl]
            have hcv0 := hcv wr (Cm.Calm.refl wr)
            have HGr := Glob.below hG (HB.out ▸ hb)
            have HGh := Lib.hid HGr
            clear hburst hS hSd hSs hc1 hc2 hcv HGr
            have hC0 := Cm.Calm.refl wr
            by_cases hd0 : x % 2 ^ i = 0
            · have e1 : decide (x % 2 ^ i = 0) = true := decide_eq_true hd0
              have e2 : (c1 == c2) = true := by rw [beq_iff_eq]; exact hceq.2 hd0
              clear hd0 hceq
              go_wp2_with fail
              repeat ((first | with_reducible refine (Calm.call hC0 (C1.out _ (HGh.out.below hC0.below))).mono ?_ | with_reducible refine (Calm.call hC0 (C2.out _ (HGh.out.below hC0.below))).mono ?_ | with_reducible refine (Calm.call hC0 (wakes_c _ (HGh.out.below hC0.below))).mono ?_); rintro e w9 ⟨rfl, hC9⟩; clear hC0; have hC0 := hC9; clear hC9; go_wp2_with fail)
              go_ret
              refine ⟨rfl, ?_⟩
              rw [← HB.out]
              exact Below.trans hb (hC0.below.mono (HB.out ▸ hb.size))
            · have e1 : decide (x % 2 ^ i = 0) = false := decide_eq_false hd0
              have e2 : (c1 == c2) = false := by rw [beq_eq_false_iff_ne]; exact fun h => hd0 (hceq.1 h)
              clear hd0 hceq
              go_wp2_with fail
              repeat ((first | with_reducible refine (Calm.call hC0 (C1.out _ (HGh.out.below hC0.below))).mono ?_ | with_reducible refine (Calm.call hC0 (C2.out _ (HGh.out.below hC0.below))).mono ?_ | with_reducible refine (Calm.call hC0 (wakes_c _ (HGh.out.below hC0.below))).mono ?_); rintro e w9 ⟨rfl, hC9⟩; clear hC0; have hC0 := hC9; clear hC9; go_wp2_with fail)
              go_ret
              refine ⟨rfl, ?_⟩
              rw [← HB.out]
              exact Below.trans hb (hC0.below.mono (HB.out ▸ hb.size))
        · have hlti' : decide ((i : Int) < 32) = false := by rw [decide_eq_false_iff_not]; omega
          have hkl : k ≤ 8 * L0.length := by rw [hL0n]; omega
          have hburst := Crc.crc_burst 0 k (x % 2 ^ i) L0 l (by rw [hL0n, Hln.out]) hkl (Nat.lt_of_le_of_lt (Nat.mod_le _ _) hx32) Hle.out
          obtain ⟨S, hS⟩ : ∃ S, S = strOfNums (l.map fun b => (b.toNat : Int)) := ⟨_, rfl⟩
          have hSd : S.data.toList = l := by rw [hS, str_nat]
          have hSs : S.size = n := by rw [hS, str_len, List.length_map, Hln.out]
          obtain ⟨c1, hc1⟩ : ∃ c, c = crcOf S := ⟨_, rfl⟩
          obtain ⟨c2, hc2⟩ : ∃ c, c = crcOf a := ⟨_, rfl⟩
          have hceq : c1 = c2 ↔ x % 2 ^ i = 0 := by rw [hc1, hc2, ← hburst, crcOf, crcOf, hSd, ← HL0.out]; omega
          have C1 := Lib.hid fun W hG => of_c S (by omega) W hG
          have C2 := Lib.hid fun W hG => of_c a hwa W hG
          rw [← hc1] at C1
          rw [← hc2] at C2
          have hcv : ∀ w', Cm.Calm wr w' → (convert 32 9 (.slice (some ⟨B, 0, none⟩) n C)).run Tryd.prog w' = .ok (.string S) w' := by
            intro w' hw
            have hsz : B < wr.heap.size := by
              have h0 : 0 < l.length := by rw [Hln.out]; omega
              exact World.block_lt_of_cell? wr _ (hR.cell 0 h0)
            rw [hS]
            refine run_convert_bytes_arg w' _ 5 Tryd.underlying32 Tryd.underlying5 B 0 n C _ (by rw [List.length_map, Hln.out]) (fun j hj => ?_) _ Tryd.underlying9
            have hjl : j < l.length := by rw [Hln.out]; exact hj
            rw [Nat.zero_add, hw.below.cell (p := ⟨B, j, none⟩) hsz, hR.cell j hjl]
            simp [List.getD, hjl]
          have hcv0 := hcv wr (Cm.Calm.refl wr)
          have HGr := Glob.below hG (HB.out ▸ hb)
          have HGh := Lib.hid HGr
          clear hburst hS hSd hSs hc1 hc2 hcv HGr
          have hC0 := Cm.Calm.refl wr
          by_cases hd0 : x % 2 ^ i = 0
          · have e1 : decide (x % 2 ^ i = 0) = true := decide_eq_true hd0
            have e2 : (c1 == c2) = true := by rw [beq_iff_eq]; exact hceq.2 hd0
            clear hd0 hceq
            go_wp2_with fail
            repeat ((first | with_reducible refine (Calm.call hC0 (C1.out _ (HGh.out.below hC0.below))).mono ?_ | with_reducible refine (Calm.call hC0 (C2.out _ (HGh.out.below hC0.below))).mono ?_ | with_reducible refine (Calm.call hC0 (wakes_c _ (HGh.out.below hC0.below))).mono ?_); rintro e w9 ⟨rfl, hC9⟩; clear hC0; have hC0 := hC9; clear hC9; go_wp2_with fail)
            go_ret
            refine ⟨rfl, ?_⟩
            rw [← HB.out]
            exact Below.trans hb (hC0.below.mono (HB.out ▸ hb.size))
          · have e1 : decide (x % 2 ^ i = 0) = false := decide_eq_false hd0
            have e2 : (c1 == c2) = false := by rw [beq_eq_false_iff_ne]; exact fun h => hd0 (hceq.1 h)
            clear hd0 hceq
            go_wp2_with fail
            repeat ((first | with_reducible refine (Calm.call hC0 (C1.out _ (HGh.out.below hC0.below))).mono ?_ | with_reducible refine (Calm.call hC0 (C2.out _ (HGh.out.below hC0.below))).mono ?_ | with_reducible refine (Calm.call hC0 (wakes_c _ (HGh.out.below hC0.below))).mono ?_); rintro e w9 ⟨rfl, hC9⟩; clear hC0; have hC0 := hC9; clear hC9; go_wp2_with fail)
            go_ret
            refine ⟨rfl, ?_⟩
            rw [← HB.out]
            exact Below.trans hb (hC0.below.mono (HB.out ▸ hb.size))
end Go.Proofs.YtbgojedhciimaaaDoor.SumB
