/-
  The law FloatSteps, walked by hand over the contracts.
-/
import Derived.Test.YtbphehijikdkjaaFltX
namespace Go.Proofs.Ytbphehijikdkjaa.FltZ
open Go.RowKit Go.Proofs.Ytbphehijikdkjaa.FltH Go.Proofs.Ytbphehijikdkjaa.FltK Go.Proofs.Ytbphehijikdkjaa.FltV Go.Proofs.Ytbphehijikdkjaa.FltR Go.Proofs.Ytbphehijikdkjaa.FltW Go.Proofs.Ytbphehijikdkjaa.FltO Go.Proofs.Ytbphehijikdkjaa.FltT Go.Proofs.Ytbphehijikdkjaa.FltB Go.Proofs.Ytbphehijikdkjaa.FltS Go.Proofs.Ytbphehijikdkjaa.FltN Go.Proofs.Ytbphehijikdkjaa.FltX Go.Proofs.YtbphehijikdkjaaW.PrintWords Go.Proofs.Ytbphehijikdkjaa.Str Go.Proofs.Ytbphehijikdkjaa.Cm
open FOrd (nan rung place neg)
set_option linter.unusedVariables false
theorem num_key (v : Nat) (h : v < 18446744073709551616) (s : ByteArray) (hs : s = strOfNums (be8 v)) : Dig.de ((bytesOf s).take 8) = v := by
  have e : bytesOf s = Dig.dg 8 v := by rw [hs, be8_eq, bytes_str _ (Dig.dg_range 8 _)]
  rw [e, List.take_of_length_le (by rw [Dig.dg_len]; omega), Dig.de_dg, Nat.mod_eq_of_lt h]
set_option maxHeartbeats 4000000 in
theorem walk (n : Int) (w : World) (hn : (Lit.int .u64 n).wf = true) :
    Calls Try.prog 7 #[.int .u64 n] w fun e w' => e = .returned (.bool true) ∧ Below w.heap.size w w' := by
  obtain ⟨a, rfl, ha⟩ := u64_wf hn
  clear hn
  have hfr := fun (n : Nat) W => from_run n W
  have hC3 := Cm.Calm.refl w
  have hself : (FloatKind.f64.format.order a a != some .eq) = nan a := ne_self a
  cases h : nan a with
  | true =>
    rw [h] at hself
    clear h ha
    go_enter Try.func7, Try.ntmps7
    go_wp2_with fail
    repeat ((first | with_reducible refine (Calm.call hC3 (wakes_c _)).mono ?_); rintro e w9 ⟨rfl, hC9⟩; clear hC3; have hC3 := hC9; clear hC9; go_wp2_with fail)
    go_ret
    exact ⟨rfl, hC3.below⟩
  | false =>
    rw [h] at hself
    obtain ⟨hov, hp1, hp2⟩ := ord_val a ha h
    have I1 := Lib.hid fun W => of_same (isInf_c a h W)
    by_cases hp : place a = 9218868437227405312
    · rw [decide_eq_true (show 9218868437227405311 < place a by omega)] at I1
      clear h ha hov hp1 hp2 hp
      go_enter Try.func7, Try.ntmps7
      go_wp2_with fail
      repeat ((first | with_reducible refine (Calm.call hC3 (I1.out _)).mono ?_ | with_reducible refine (Calm.call hC3 (wakes_c _)).mono ?_); rintro e w9 ⟨rfl, hC9⟩; clear hC3; have hC3 := hC9; clear hC9; go_wp2_with fail)
      go_ret
      exact ⟨rfl, hC3.below⟩
    · rw [decide_eq_false (show ¬ 9218868437227405311 < place a by omega)] at I1
      have J1 := Lib.hid fun W => of_same (inf_pos W)
      have N1 := Lib.hid fun W => of_same (next_c a ha h hp W)
      have hgl := next_lt a ha h
      obtain ⟨hgn, hgp⟩ := next_place a ha h hp
      have hord := next_ord a ha h hp
      have K1 := Lib.hid fun W => key_c a ha W
      have K2 := Lib.hid fun W => key_c (nextB a) hgl W
      have hz := eq_zero (nextB a) hgn
      have hl := less_ord a (nextB a) ha hgl
      have hlt0 : ordB a < ordB (nextB a) := by rw [hord]; split <;> omega
      rw [decide_eq_true hlt0] at hl
      have L1 := Lib.hid fun W => ls_c hl W
      have hx := ordB_lt a ha
      have hy := ordB_lt (nextB a) hgl
      obtain ⟨g, hg⟩ : ∃ g, g = nextB a := ⟨_, rfl⟩
      rw [← hg] at N1 K2 hz L1 hord hlt0 hy
      obtain ⟨x, hxd⟩ : ∃ x, x = ordB a := ⟨_, rfl⟩
      obtain ⟨y, hyd⟩ : ∃ x, x = ordB g := ⟨_, rfl⟩
      rw [← hxd] at K1 hord hlt0 hx
      rw [← hyd] at K2 hord hlt0 hy
      obtain ⟨s, hs⟩ : ∃ s, s = strOfNums (be8 x) := ⟨_, rfl⟩
      obtain ⟨t, ht⟩ : ∃ s, s = strOfNums (be8 y) := ⟨_, rfl⟩
      have kl := key_lt x y hx hy
      have ns := num_key x hx s hs
      have nt := num_key y hy t ht
      rw [← hs] at K1 kl
      rw [← ht] at K2 kl
      have hss : s.size = 8 := by rw [hs, str_size, be8_len]
      have hts : t.size = 8 := by rw [ht, str_size, be8_len]
      have z1 : ((s.size : Int) != 8) = false := by rw [hss]; rfl
      have z2 : ((t.size : Int) != 8) = false := by rw [hts]; rfl
      have d4 : Op.bytesLess s.toList t.toList = true := (bytesLess_iff _ _).2 (kl.2 hlt0)
      have hz' : (FloatKind.f64.format.order g 0 == some .eq) = decide (rung g = 0) := hz
      have NS := Lib.hid ns
      have NT := Lib.hid nt
      have HSS := Lib.hid hss
      have HTS := Lib.hid hts
      have HORD := Lib.hid hord
      have HZ := Lib.hid hz'
      clear hs ht hxd hyd hg hz hz' kl ns nt hss hts hord hlt0 hl hgn hgp hgl hp hov hp1 hp2 h ha
      go_enter Try.func7, Try.ntmps7
      go_wp2_with fail
      repeat ((first | with_reducible refine (Calm.call hC3 (I1.out _)).mono ?_ | with_reducible refine (Calm.call hC3 (J1.out _)).mono ?_ | with_reducible refine (Calm.call hC3 (N1.out _)).mono ?_ | with_reducible refine (Calm.call hC3 (K1.out _)).mono ?_ | with_reducible refine (Calm.call hC3 (K2.out _)).mono ?_ | with_reducible refine (Calm.call hC3 (L1.out _)).mono ?_); rintro e w9 ⟨rfl, hC9⟩; clear hC3; have hC3 := hC9; clear hC9; go_wp2_with fail)
      go_loopw [7, 8, 9] (fun v7 v8 v9 w' => ∃ i : Nat, i ≤ 8 ∧ v9 = .int .i64 i ∧ v7 = .int .u64 (Dig.de ((bytesOf s).take i) : Nat) ∧ v8 = .int .u64 (Dig.de ((bytesOf t).take i) : Nat) ∧ Cm.Calm w w') (fun _ _ v9 _ => 8 - (intOf v9).toNat)
      case atStart => exact ⟨0, by omega, rfl, rfl, rfl, hC3⟩
      case round =>
        clear hC3
        obtain ⟨i, hi, rfl, rfl, rfl, hC3⟩ := hrel
        by_cases hlt : i < 8
        · have h1 : i < s.size := by rw [HSS.out]; exact hlt
          have h2 : i < t.size := by rw [HTS.out]; exact hlt
          have e1 := take_de s i h1
          have e2 := take_de t i h2
          have l1 := take_lt s i hlt
          have l2 := take_lt t i hlt
          obtain ⟨d, hd⟩ : ∃ d, d = Dig.de ((bytesOf s).take i) := ⟨_, rfl⟩
          obtain ⟨f, hf⟩ : ∃ d, d = Dig.de ((bytesOf t).take i) := ⟨_, rfl⟩
          rw [← hd] at e1 l1 ⊢
          rw [← hf] at e2 l2 ⊢
          have o1 := or_byte d s[i].toNat l1 s[i].toNat_lt
          have o2 := or_byte f t[i].toNat l2 t[i].toNat_lt
          have b1 : (s[i].toNat : Int) % 18446744073709551616 = s[i].toNat := by have := s[i].toNat_lt; omega
          have b2 : (t[i].toNat : Int) % 18446744073709551616 = t[i].toNat := by have := t[i].toNat_lt; omega
          have W1 := Lib.hid (show IntKind.u64.wrap ((d : Int) * 256) = (d : Int) * 256 by rw [IntKind.wrap_u64]; omega)
          have W2 := Lib.hid (show IntKind.u64.wrap ((f : Int) * 256) = (f : Int) * 256 by rw [IntKind.wrap_u64]; omega)
          have W3 := Lib.hid (show IntKind.u64.wrap (s[i].toNat : Int) = (s[i].toNat : Int) by rw [IntKind.wrap_u64]; exact b1)
          have W4 := Lib.hid (show IntKind.u64.wrap (t[i].toNat : Int) = (t[i].toNat : Int) by rw [IntKind.wrap_u64]; exact b2)
          have E1 := Lib.hid e1
          have E2 := Lib.hid e2
          clear e1 e2 hd hf
          go_wp2_with fail
          refine Cm.wp_region_calm_lit w (by kernel_rfl) (by kernel_rfl) hC3 ?_
          repeat (first | go_big_quiet_step (fail) | (refine wpQuiet_step (fun K hK => ?_); go_simp; first | (refine hK _ ?_; clear hK K) | (refine ⟨_, fun _ _ => rfl, hK _ ?_⟩; clear hK K)))
          refine wpQuiet_nil ?_
          intro w7 hC7
          go_wp2
          refine ⟨⟨i + 1, by omega, by go_num, val_int (by rw [E1.out, W1.out, W3.out, o1]), val_int (by rw [E2.out, W2.out, W4.out, o2]), hC7⟩, by simp [intOf]; omega⟩
        · have e1 : Dig.de ((bytesOf s).take i) = x := by rw [show i = 8 by omega]; exact NS.out
          have e2 : Dig.de ((bytesOf t).take i) = y := by rw [show i = 8 by omega]; exact NT.out
          rw [e1, e2]
          clear e1 e2
          have hz := HZ.out
          by_cases hr : rung g = 0
          · rw [decide_eq_true hr] at hz
            have ho : y = x + 2 := by have := HORD.out; rw [if_pos hr] at this; exact this
            subst ho
            have hw : IntKind.u64.wrap (((x + 2 : Nat) : Int) - (x : Int)) = 2 := by rw [IntKind.wrap_u64]; omega
            have hs2 : ((x + 2 : Nat) : Int) - (x : Int) = 2 := by omega
            clear hr
            go_wp2_with fail
            repeat ((first | with_reducible refine (Calm.call hC3 (wakes_c _)).mono ?_); rintro e w9 ⟨rfl, hC9⟩; clear hC3; have hC3 := hC9; clear hC9; go_wp2_with fail)
            go_ret
            exact ⟨rfl, hC3.below⟩
          · rw [decide_eq_false hr] at hz
            have ho : y = x + 1 := by have := HORD.out; rw [if_neg hr] at this; exact this
            subst ho
            have hs2 : ((x + 1 : Nat) : Int) - (x : Int) = 1 := by omega
            clear hr
            go_wp2_with fail
            repeat ((first | with_reducible refine (Calm.call hC3 (wakes_c _)).mono ?_); rintro e w9 ⟨rfl, hC9⟩; clear hC3; have hC3 := hC9; clear hC9; go_wp2_with fail)
            go_ret
            exact ⟨rfl, hC3.below⟩
end Go.Proofs.Ytbphehijikdkjaa.FltZ
