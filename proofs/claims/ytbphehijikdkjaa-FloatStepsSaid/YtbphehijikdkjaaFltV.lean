/-
  float.Value and its reference, walked by hand.
-/
import Derived.Test.YtbphehijikdkjaaFltK
import Derived.Test.YtbphehijikdkjaaDig
import Derived.Test.YtbphehijikdkjaaStr
import Derived.Test.YtbphehijikdkjaaCalm
namespace Go.Proofs.Ytbphehijikdkjaa.FltV
open Go.RowKit Go.Proofs.Ytbphehijikdkjaa.FltH Go.Proofs.Ytbphehijikdkjaa.FltK Go.Proofs.YtbphehijikdkjaaW.PrintWords Go.Proofs.YtbphehijikdkjaaW.PrintMore Go.Proofs.Ytbphehijikdkjaa.Str Go.Proofs.Ytbphehijikdkjaa.Cm
set_option linter.unusedVariables false
theorem be8_eq (v : Nat) : be8 v = Dig.dg 8 v := by
  simp [be8, List.range, List.range.loop, Dig.dg, Nat.div_div_eq_div_mul]
/-- The number of a text's bytes. -/
def num (s : ByteArray) : Nat := Dig.de (bytesOf s)
theorem num_lt (s : ByteArray) (h : s.size = 8) : num s < 18446744073709551616 := by
  have := Dig.de_lt (bytesOf s) (R_bytesOf s)
  rw [len_bytesOf, h] at this
  exact this
theorem key_eq (s : ByteArray) (h : s.size = 8) (o : Nat) (ho : o < 18446744073709551616) : strOfNums (be8 o) = s ↔ o = num s := by
  rw [be8_eq]
  constructor
  · intro e
    have e2 : Dig.dg 8 o = bytesOf s := by rw [← e, bytes_str _ (Dig.dg_range 8 o)]
    have e3 := congrArg Dig.de e2
    rw [Dig.de_dg, Nat.mod_eq_of_lt (by exact ho)] at e3
    exact e3
  · intro e
    rw [e]
    apply bytes_inj
    rw [bytes_str _ (Dig.dg_range 8 _)]
    exact Dig.dg_de 8 _ (by rw [len_bytesOf, h]) (R_bytesOf s)
theorem or_byte (x y : Nat) (hx : x < 72057594037927936) (hy : y < 256) : bits .or .u64 ((x : Int) * 256) (y : Int) = ((x * 256 + y : Nat) : Int) := by
  have := bits_join .u64 64 (by decide) (fun n h0 h1 => by rw [IntKind.wrap_u64]; omega) 8 ((x : Int) * 256) (y : Int) (by omega) (by omega) (by omega) (by omega) (by omega) (by omega)
  rw [this]; omega
/-- The number that a key tells, if it is one's. -/
def unB (v : Nat) : Nat := if 9223372036854775808 ≤ v then v - 9223372036854775808 else 18446744073709551615 - v
theorem unB_lt (v : Nat) (h : v < 18446744073709551616) : unB v < 18446744073709551616 := by unfold unB; split <;> omega
def valS (s : ByteArray) : Nat × Bool := if s.size = 8 then (if ordB (unB (num s)) = num s then (unB (num s), true) else (0, false)) else (0, false)
theorem take_de (s : ByteArray) (i : Nat) (h : i < s.size) : Dig.de ((bytesOf s).take (i + 1)) = Dig.de ((bytesOf s).take i) * 256 + s[i].toNat := by
  rw [List.take_succ_eq_append_getElem (by rw [len_bytesOf]; exact h), Dig.de_snoc]
  congr 1
  simp [bytesOf]; rfl
theorem take_lt (s : ByteArray) (i : Nat) (h : i < 8) : Dig.de ((bytesOf s).take i) < 72057594037927936 := by
  have := Dig.de_lt ((bytesOf s).take i) (R_take (R_bytesOf s) i)
  have h2 : ((bytesOf s).take i).length ≤ 7 := by rw [List.length_take]; omega
  have h3 : 256 ^ ((bytesOf s).take i).length ≤ 256 ^ 7 := Nat.pow_le_pow_right (by decide) h2
  have h4 : 256 ^ 7 = 72057594037927936 := by decide
  omega
set_option maxHeartbeats 1000000 in
theorem value_c (s : ByteArray) (w : World) : Calls Try.prog 9 #[.string s] w fun e w' => e = .returned (.tuple #[.float .f64 (valS s).1, .bool (valS s).2]) ∧ Below w.heap.size w w' := by
  by_cases hs : s.size = 8
  · have hs' : ((s.size : Int) != 8) = false := by rw [bne_eq_false_iff_eq]; omega
    have hfr := fun (n : Nat) W => from_run n W
    obtain ⟨v, hv⟩ : ∃ v, v = num s := ⟨_, rfl⟩
    have hvl : v < 18446744073709551616 := by rw [hv]; exact num_lt s hs
    obtain ⟨u, hu⟩ : ∃ u, u = unB v := ⟨_, rfl⟩
    have hul : u < 18446744073709551616 := by rw [hu]; exact unB_lt v hvl
    have hval : valS s = if ordB u = v then (u, true) else (0, false) := by rw [hu, hv]; unfold valS; rw [if_pos hs]
    have hk := key_eq s hs (ordB u) (ordB_lt u hul)
    rw [← hv] at hk
    obtain ⟨t, ht⟩ : ∃ t, t = strOfNums (be8 (ordB u)) := ⟨_, rfl⟩
    have CK := Lib.hid fun W => key_c u hul W
    rw [← ht] at CK hk
    have hfin : Dig.de ((bytesOf s).take 8) = v := by rw [List.take_of_length_le (by rw [len_bytesOf, hs]; omega), hv]; rfl
    have HS := Lib.hid hs
    have HV := Lib.hid hv
    have HU := Lib.hid hu
    have HVAL := Lib.hid hval
    have HK := Lib.hid hk
    have HFIN := Lib.hid hfin
    clear hs hv hu hval hk ht hfin
    go_enter Try.func9, Try.ntmps9
    go_wp2
    go_loop [4, 5, 10] (fun v4 v5 v10 => ∃ (i : Nat), i ≤ 8 ∧ v10 = .int .i64 i ∧ v4 = .int .u64 (Dig.de ((bytesOf s).take i) : Nat)) (fun _ _ v10 => 8 - (intOf v10).toNat)
    case atStart => exact ⟨0, by omega, rfl, rfl⟩
    case round =>
      obtain ⟨i, hi, rfl, rfl⟩ := hrel
      by_cases hlt : i < 8
      · have hsz : i < s.size := by rw [HS.out]; exact hlt
        have hst := take_de s i hsz
        have hdl := take_lt s i hlt
        obtain ⟨d, hd⟩ : ∃ d, d = Dig.de ((bytesOf s).take i) := ⟨_, rfl⟩
        rw [← hd] at hst hdl ⊢
        have hor := or_byte d s[i].toNat hdl s[i].toNat_lt
        have hB2 : (s[i].toNat : Int) % 18446744073709551616 = s[i].toNat := by have := s[i].toNat_lt; omega
        have Hst := Lib.hid hst
        clear hd hst
        go_wp2
        go_round
        case rel => exact ⟨i + 1, by omega, by go_num, val_int (by rw [Hst.out]; simp)⟩
        case measure => simp [intOf]; omega
      · have h8 : Dig.de ((bytesOf s).take i) = v := by rw [show i = 8 by omega]; exact HFIN.out
        rw [h8]
        clear h8
        have hsg := and_sign v hvl
        by_cases hge : 9223372036854775808 ≤ v
        · rw [if_neg (by omega)] at hsg
          have h3 : (bits .and .u64 (v : Int) 9223372036854775808 != 0) = true := by rw [hsg]; rfl
          have h4 := clear_sign v hge hvl
          have h5 : v - 9223372036854775808 = u := by rw [HU.out, unB, if_pos hge]
          rw [h5] at h4
          clear hsg h5
          by_cases he : ordB u = v
          · have h6 : (t.toList == s.toList) = true := by rw [HK.out.2 he]; simp
            have h7 : valS s = (u, true) := by rw [HVAL.out, if_pos he]
            have H7 := Lib.hid h7
            clear h7 he
            go_wp2_with (go_at_call 11; refine (CK.out _).mono ?_; rintro e w1 ⟨rfl, hb1⟩)
            go_ret2
            exact ⟨by rw [H7.out]; rfl, hb1⟩
          · have h6 : (t.toList == s.toList) = false := by rw [beq_eq_false_iff_ne]; exact fun c => he (HK.out.1 ((toList_inj t s).1 c))
            have h7 : valS s = (0, false) := by rw [HVAL.out, if_neg he]
            have H7 := Lib.hid h7
            clear h7 he
            go_wp2_with (go_at_call 11; refine (CK.out _).mono ?_; rintro e w1 ⟨rfl, hb1⟩)
            go_ret2
            exact ⟨by rw [H7.out]; rfl, hb1⟩
        · rw [if_pos (by omega)] at hsg
          have h3 : (bits .and .u64 (v : Int) 9223372036854775808 != 0) = false := by rw [hsg]; rfl
          have h4 := bits_inv v hvl
          have h5 : 18446744073709551615 - v = u := by rw [HU.out, unB, if_neg hge]
          rw [h5] at h4
          clear hsg h5
          by_cases he : ordB u = v
          · have h6 : (t.toList == s.toList) = true := by rw [HK.out.2 he]; simp
            have h7 : valS s = (u, true) := by rw [HVAL.out, if_pos he]
            have H7 := Lib.hid h7
            clear h7 he
            go_wp2_with (go_at_call 11; refine (CK.out _).mono ?_; rintro e w1 ⟨rfl, hb1⟩)
            go_ret2
            exact ⟨by rw [H7.out]; rfl, hb1⟩
          · have h6 : (t.toList == s.toList) = false := by rw [beq_eq_false_iff_ne]; exact fun c => he (HK.out.1 ((toList_inj t s).1 c))
            have h7 : valS s = (0, false) := by rw [HVAL.out, if_neg he]
            have H7 := Lib.hid h7
            clear h7 he
            go_wp2_with (go_at_call 11; refine (CK.out _).mono ?_; rintro e w1 ⟨rfl, hb1⟩)
            go_ret2
            exact ⟨by rw [H7.out]; rfl, hb1⟩
  · have hs' : ((s.size : Int) != 8) = true := by rw [bne_iff_ne]; omega
    have h7 : valS s = (0, false) := by unfold valS; rw [if_neg hs]
    go_enter Try.func9, Try.ntmps9
    go_wp2
    go_ret2
    exact ⟨by rw [h7]; rfl, Below.refl _ _⟩
end Go.Proofs.Ytbphehijikdkjaa.FltV
