/-
  The law NibbleCommon, walked by hand over the contracts.
-/
import Derived.Test.YtbgojedhciimaaaNibL
import Derived.Test.YtbgojedhciimaaaCalm
namespace Go.Proofs.Ytbgojedhciimaaa.NibC
open Go.RowKit Go.Proofs.YtbgojedhciimaaaW.PrintWords Go.Proofs.Ytbgojedhciimaaa.PNib Go.Proofs.Ytbgojedhciimaaa.NibP Go.Proofs.Ytbgojedhciimaaa.Cm
open NibL (wakes_f)
open NibH (common common_drop common_end)
set_option linter.unusedVariables false
theorem of_c (s : ByteArray) (hs : s.size ≤ 500) (w : World) : Calls Try.prog 18 #[.string s] w fun e w' => e = .returned (.string (strOfNums (nibL (bytesOf s)))) ∧ Below w.heap.size w w' :=
  nibble_Of.calls 1000 s _ w (of_f s (by omega) _ (by omega))
theorem common_c (a b : ByteArray) (ha : a.size ≤ 1000) (hb : b.size ≤ 1000) (w : World) : Calls Try.prog 20 #[.string a, .string b] w fun e w' => e = .returned (.int .i64 (common a.data.toList b.data.toList : Nat)) ∧ Below w.heap.size w w' :=
  (NibH.common_any a b w (by omega) (by omega)).mono fun _ _ ⟨he, hd⟩ => ⟨he, hd.below⟩
theorem wakes_c (w : World) : Calls Try.prog 11 #[] w fun e w' => e = .returned (.bool true) ∧ Below w.heap.size w w' :=
  umbellaw02_wakes.calls 100 true w (wakes_f _ (by omega))
/-! ### What two texts have in common, plainly -/
theorem common_comm (a b : List UInt8) : common a b = common b a := by
  induction a generalizing b with
  | nil => cases b <;> rfl
  | cons x a ih =>
    cases b with
    | nil => rfl
    | cons y b =>
      simp only [common]
      by_cases h : x = y
      · rw [if_pos h, if_pos h.symm, ih b]
      · rw [if_neg h, if_neg (fun c => h c.symm)]
theorem common_self (a : List UInt8) : common a a = a.length := by
  induction a with
  | nil => rfl
  | cons x a ih => simp only [common, if_true, ih, List.length_cons]
theorem common_le (a b : List UInt8) : common a b ≤ a.length := by
  induction a generalizing b with
  | nil => cases b <;> exact Nat.le_refl _
  | cons x a ih =>
    cases b with
    | nil => exact Nat.zero_le _
    | cons y b =>
      simp only [common]
      split
      · have := ih b; simp; omega
      · exact Nat.zero_le _
theorem common_take (a b : List UInt8) : a.take (common a b) = b.take (common a b) := by
  induction a generalizing b with
  | nil => cases b <;> rfl
  | cons x a ih =>
    cases b with
    | nil => rfl
    | cons y b =>
      simp only [common]
      split
      · rename_i h; subst h; simp only [List.take_succ_cons, ih b]
      · rfl
theorem common_ne (a b : List UInt8) (h1 : common a b < a.length) (h2 : common a b < b.length) : a[common a b] ≠ b[common a b] := by
  intro h
  have e := common_drop a b (common a b) h1 h2
  have key : ∀ (a b : List UInt8) (k : Nat), k ≤ common a b → common (a.drop k) (b.drop k) = common a b - k := by
    intro a
    induction a with
    | nil => intro b k hk; cases b <;> simp [common]
    | cons x a ih =>
      intro b k hk
      cases b with
      | nil => simp [common] at hk ⊢
      | cons y b =>
        cases k with
        | zero => simp
        | succ k =>
          simp only [common] at hk ⊢
          by_cases hxy : x = y
          · rw [if_pos hxy] at hk ⊢
            simp only [List.drop_succ_cons]
            rw [ih b k (by omega)]; omega
          · rw [if_neg hxy] at hk; exact absurd hk (by omega)
  rw [key a b _ (Nat.le_refl _), if_pos h] at e
  omega
def nib8 (l : List UInt8) : List UInt8 := l.flatMap fun b => [b / 16, b % 16]
theorem nib_eq (s : ByteArray) : (strOfNums (nibL (bytesOf s))).data.toList = nib8 s.data.toList := by
  rw [strOfNums_data, bytesOf]
  generalize s.data.toList = l
  induction l with
  | nil => rfl
  | cons b l ih =>
    have hb := b.toNat_lt
    rw [List.map_cons, nibL_cons, List.map_append, ih]
    show _ = [b / 16, b % 16] ++ nib8 l
    congr 1
    simp only [List.map_cons, List.map_nil]
    have e1 : UInt8.ofNat ((b.toNat : Int) / 16).toNat = b / 16 := by
      apply UInt8.toNat_inj.1
      rw [UInt8.toNat_ofNat', UInt8.toNat_div]
      have : ((b.toNat : Int) / 16).toNat = b.toNat / 16 := by omega
      rw [this]
      have h16 : (16 : UInt8).toNat = 16 := rfl
      rw [h16]; omega
    have e2 : UInt8.ofNat ((b.toNat : Int) % 16).toNat = b % 16 := by
      apply UInt8.toNat_inj.1
      rw [UInt8.toNat_ofNat', UInt8.toNat_mod]
      have : ((b.toNat : Int) % 16).toNat = b.toNat % 16 := by omega
      rw [this]
      have h16 : (16 : UInt8).toNat = 16 := rfl
      rw [h16]; omega
    rw [e1, e2]
theorem nib_common (a b : List UInt8) : common (nib8 a) (nib8 b) = 2 * common a b ∨ (common (nib8 a) (nib8 b) = 2 * common a b + 1 ∧ ∃ (h1 : common a b < a.length) (h2 : common a b < b.length), a[common a b].toNat / 16 = b[common a b].toNat / 16) := by
  induction a generalizing b with
  | nil => left; cases b <;> rfl
  | cons x a ih =>
    cases b with
    | nil => left; rfl
    | cons y b =>
      have hx := x.toNat_lt
      have hy := y.toNat_lt
      have e : common (nib8 (x :: a)) (nib8 (y :: b)) = if x / 16 = y / 16 then (if x % 16 = y % 16 then common (nib8 a) (nib8 b) + 1 else 0) + 1 else 0 := rfl
      have h16 : (16 : UInt8).toNat = 16 := rfl
      have d1 : x / 16 = y / 16 ↔ x.toNat / 16 = y.toNat / 16 := by rw [← UInt8.toNat_inj, UInt8.toNat_div, UInt8.toNat_div, h16]
      have d2 : x % 16 = y % 16 ↔ x.toNat % 16 = y.toNat % 16 := by rw [← UInt8.toNat_inj, UInt8.toNat_mod, UInt8.toNat_mod, h16]
      rw [e]
      by_cases h : x = y
      · subst h
        have ec : common (x :: a) (x :: b) = common a b + 1 := by simp [common]
        rw [if_pos rfl, if_pos rfl]
        rcases ih b with h1 | ⟨h1, h2, h3, h4⟩
        · left; rw [h1, ec]; omega
        · right
          refine ⟨by rw [h1, ec]; omega, by rw [ec, List.length_cons]; omega, by rw [ec, List.length_cons]; omega, ?_⟩
          simp only [ec, List.getElem_cons_succ]
          exact h4
      · have ec : common (x :: a) (y :: b) = 0 := by simp [common, h]
        by_cases c1 : x / 16 = y / 16
        · rw [if_pos c1]
          by_cases c2 : x % 16 = y % 16
          · exact absurd (UInt8.toNat_inj.1 (by rw [d1] at c1; rw [d2] at c2; omega)) h
          · right
            rw [if_neg c2]
            refine ⟨by rw [ec], by rw [ec]; simp, by rw [ec]; simp, ?_⟩
            simp only [ec, List.getElem_cons_zero]
            exact d1.1 c1
        · left; rw [if_neg c1, ec]
theorem ext_take (s : ByteArray) (k : Nat) : (s.extract 0 k).toList = s.data.toList.take k := by
  rw [toList_eq]; simp
theorem cne (a b : ByteArray) (k : Nat) (hk : k = common a.data.toList b.data.toList) (h1 : k < a.size) (h2 : k < b.size) : a[k].toNat ≠ b[k].toNat := by
  subst hk
  intro h
  have h' := UInt8.toNat_inj.1 h
  exact common_ne a.data.toList b.data.toList h1 h2 h'
set_option maxHeartbeats 1000000 in
theorem walk (a b : ByteArray) (w : World) : Calls Try.prog 5 #[.string a, .string b] w fun e w' => e = .returned (.bool true) ∧ Below w.heap.size w w' := by
  have hC := Calm.refl w
  by_cases ha : a.size > 500
  · have ha' : decide ((500 : Int) < a.size) = true := by simp; omega
    go_enter Try.func5, Try.ntmps5
    go_wp2_with (go_at_call 11; refine ((Calm.call hC (wakes_c _)).mono ?_); rintro e w1 ⟨rfl, hC1⟩)
    go_ret
    exact ⟨rfl, hC1.below⟩
  · by_cases hb : b.size > 500
    · have ha' : decide ((500 : Int) < a.size) = false := by simp; omega
      have hb' : decide ((500 : Int) < b.size) = true := by simp; omega
      go_enter Try.func5, Try.ntmps5
      go_wp2_with (go_at_call 11; refine ((Calm.call hC (wakes_c _)).mono ?_); rintro e w1 ⟨rfl, hC1⟩)
      go_ret
      exact ⟨rfl, hC1.below⟩
    · have ha' : decide ((500 : Int) < a.size) = false := by simp; omega
      have hb' : decide ((500 : Int) < b.size) = false := by simp; omega
      obtain ⟨oa, hoa⟩ : ∃ o, o = strOfNums (nibL (bytesOf a)) := ⟨_, rfl⟩
      obtain ⟨ob, hob⟩ : ∃ o, o = strOfNums (nibL (bytesOf b)) := ⟨_, rfl⟩
      obtain ⟨k, hk⟩ : ∃ k, k = common a.data.toList b.data.toList := ⟨_, rfl⟩
      obtain ⟨n, hn⟩ : ∃ n, n = common oa.data.toList ob.data.toList := ⟨_, rfl⟩
      have ca := fun W => of_c a (by omega) W
      have cb := fun W => of_c b (by omega) W
      have cab := fun W => common_c a b (by omega) (by omega) W
      have cba := fun W => common_c b a (by omega) (by omega) W
      have caa := fun W => common_c a a (by omega) (by omega) W
      have coo := fun W => common_c oa ob (by rw [hoa, str_size, nibL_length, len_bytesOf]; omega) (by rw [hob, str_size, nibL_length, len_bytesOf]; omega) W
      rw [← hoa] at ca
      rw [← hob] at cb
      rw [← hk] at cab
      rw [common_comm, ← hk] at cba
      rw [common_self] at caa
      rw [← hn] at coo
      have f1 : k ≤ a.size := by rw [hk]; exact common_le _ _
      have hk5 : k ≤ 500 := by omega
      have f2 : k ≤ b.size := by rw [hk, common_comm]; exact common_le _ _
      have f3 : ((a.extract 0 k).toList == (b.extract 0 k).toList) = true := by rw [ext_take, ext_take, hk, common_take]; simp
      have f4 : ∀ (h1 : k < a.size) (h2 : k < b.size), ((a[k].toNat : Int) == (b[k].toNat : Int)) = false := by
        intro h1 h2
        rw [beq_eq_false_iff_ne]
        intro h
        exact cne a b k hk h1 h2 (by omega)
      have f5 : n = 2 * k ∨ (n = 2 * k + 1 ∧ ∃ (h1 : k < a.size) (h2 : k < b.size), a[k].toNat / 16 = b[k].toNat / 16) := by
        subst hn hk
        rw [hoa, hob, nib_eq, nib_eq]
        exact nib_common _ _
      have hlen : a.data.toList.length = a.size := by simp
      rw [hlen] at caa
      clear hoa hob hk hn hlen ha hb
      have g0 : decide ((k : Int) < 0) = false := by rw [decide_eq_false_iff_not]; omega
      have g1 : decide (a.size < k) = false := by simp; omega
      have g2 : decide (b.size < k) = false := by simp; omega
      have g3 : IntKind.i64.wrap (2 * (k : Int)) = 2 * (k : Int) := by rw [IntKind.wrap_i64]; omega
      have g4 : IntKind.i64.wrap (2 * (k : Int) + 1) = 2 * (k : Int) + 1 := by rw [IntKind.wrap_i64]; omega
      have CA := Lib.hid ca
      have CB := Lib.hid cb
      have CAB := Lib.hid cab
      have CBA := Lib.hid cba
      have CAA := Lib.hid caa
      have COO := Lib.hid coo
      have F5 := Lib.hid f5
      clear ca cb cab cba caa coo f5
      go_enter Try.func5, Try.ntmps5
      go_wp2_with fail
      refine ((Calm.call hC (CAB.out _)).mono ?_); rintro e w1 ⟨rfl, hC1⟩
      go_wp2_with fail
      refine ((Calm.call hC1 (CA.out _)).mono ?_); rintro e w2 ⟨rfl, hC2⟩
      go_wp2_with fail
      refine ((Calm.call hC2 (CB.out _)).mono ?_); rintro e w3 ⟨rfl, hC3⟩
      go_wp2_with fail
      refine ((Calm.call hC3 (COO.out _)).mono ?_); rintro e w4 ⟨rfl, hC4⟩
      go_wp2_with fail
      clear hC hC1 hC2 hC3
      refine wp_region_calm_lit w (by kernel_rfl) (by kernel_rfl) hC4 ?_
      repeat (first | go_big_quiet_step (fail) | (refine wpQuiet_step (fun K hK => ?_); go_simp; first | (refine hK _ ?_; clear hK K) | (refine ⟨_, fun _ _ => rfl, hK _ ?_⟩; clear hK K) | (apply Exists.intro; refine ⟨fun _ hc_ => ?_, hK _ ?_⟩; (exact Calm.call hc_ (CBA.out _)); clear hK K)))
      refine wpQuiet_nil ?_
      intro w5 hC5
      clear hC4
      go_wp2
      by_cases h1 : k < a.size
      · by_cases h2 : k < b.size
        · have f6 := f4 h1 h2
          have h1i : (k : Int) < a.size := by omega
          have h2i : (k : Int) < b.size := by omega
          clear f4
          rcases F5.out with f7 | ⟨f7, _, _, f8⟩
          · have f9 : ((n : Int) == 2 * (k : Int)) = true := by rw [beq_iff_eq]; omega
            clear f7 F5
            refine wp_region_calm_lit w (by kernel_rfl) (by kernel_rfl) hC5 ?_
            repeat (first | go_big_quiet_step (fail) | (refine wpQuiet_step (fun K hK => ?_); go_simp; first | (refine hK _ ?_; clear hK K) | (refine ⟨_, fun _ _ => rfl, hK _ ?_⟩; clear hK K) | (apply Exists.intro; refine ⟨fun _ hc_ => ?_, hK _ ?_⟩; (fail); clear hK K)))
            refine wpQuiet_nil ?_
            intro w6 hC6
            clear hC5
            go_wp2
            refine wp_region_calm_lit w (by kernel_rfl) (by kernel_rfl) hC6 ?_
            repeat (first | go_big_quiet_step (fail) | (refine wpQuiet_step (fun K hK => ?_); go_simp; first | (refine hK _ ?_; clear hK K) | (refine ⟨_, fun _ _ => rfl, hK _ ?_⟩; clear hK K) | (apply Exists.intro; refine ⟨fun _ hc_ => ?_, hK _ ?_⟩; (first | exact Calm.call hc_ (CAA.out _) | exact Calm.call hc_ (wakes_c _)); clear hK K)))
            refine wpQuiet_nil ?_
            intro w7 hC7
            go_wp2
            go_ret
            exact ⟨rfl, hC7.below⟩
          · have f9 : ((n : Int) == 2 * (k : Int)) = false := by rw [beq_eq_false_iff_ne]; omega
            have f10 : ((n : Int) == 2 * (k : Int) + 1) = true := by rw [beq_iff_eq]; omega
            have f11 : ((a[k].toNat : Int) / 16 == (b[k].toNat : Int) / 16) = true := by rw [beq_iff_eq]; omega
            clear f7 f8 F5
            refine wp_region_calm_lit w (by kernel_rfl) (by kernel_rfl) hC5 ?_
            repeat (first | go_big_quiet_step (fail) | (refine wpQuiet_step (fun K hK => ?_); go_simp; first | (refine hK _ ?_; clear hK K) | (refine ⟨_, fun _ _ => rfl, hK _ ?_⟩; clear hK K) | (apply Exists.intro; refine ⟨fun _ hc_ => ?_, hK _ ?_⟩; (fail); clear hK K)))
            refine wpQuiet_nil ?_
            intro w6 hC6
            clear hC5
            go_wp2
            refine wp_region_calm_lit w (by kernel_rfl) (by kernel_rfl) hC6 ?_
            repeat (first | go_big_quiet_step (fail) | (refine wpQuiet_step (fun K hK => ?_); go_simp; first | (refine hK _ ?_; clear hK K) | (refine ⟨_, fun _ _ => rfl, hK _ ?_⟩; clear hK K) | (apply Exists.intro; refine ⟨fun _ hc_ => ?_, hK _ ?_⟩; (first | exact Calm.call hc_ (CAA.out _) | exact Calm.call hc_ (wakes_c _)); clear hK K)))
            refine wpQuiet_nil ?_
            intro w7 hC7
            go_wp2
            go_ret
            exact ⟨rfl, hC7.below⟩
        · have h1i : (k : Int) < a.size := by omega
          have h2i : decide ((k : Int) < b.size) = false := by simp; omega
          have f9 : ((n : Int) == 2 * (k : Int)) = true := by
            rw [beq_iff_eq]
            rcases F5.out with f7 | ⟨f7, _, c, f8⟩
            · omega
            · exact absurd c h2
          clear f4 F5
          refine wp_region_calm_lit w (by kernel_rfl) (by kernel_rfl) hC5 ?_
          repeat (first | go_big_quiet_step (fail) | (refine wpQuiet_step (fun K hK => ?_); go_simp; first | (refine hK _ ?_; clear hK K) | (refine ⟨_, fun _ _ => rfl, hK _ ?_⟩; clear hK K) | (apply Exists.intro; refine ⟨fun _ hc_ => ?_, hK _ ?_⟩; (fail); clear hK K)))
          refine wpQuiet_nil ?_
          intro w6 hC6
          clear hC5
          go_wp2
          refine wp_region_calm_lit w (by kernel_rfl) (by kernel_rfl) hC6 ?_
          repeat (first | go_big_quiet_step (fail) | (refine wpQuiet_step (fun K hK => ?_); go_simp; first | (refine hK _ ?_; clear hK K) | (refine ⟨_, fun _ _ => rfl, hK _ ?_⟩; clear hK K) | (apply Exists.intro; refine ⟨fun _ hc_ => ?_, hK _ ?_⟩; (first | exact Calm.call hc_ (CAA.out _) | exact Calm.call hc_ (wakes_c _)); clear hK K)))
          refine wpQuiet_nil ?_
          intro w7 hC7
          go_wp2
          go_ret
          exact ⟨rfl, hC7.below⟩
      · have h1i : decide ((k : Int) < a.size) = false := by simp; omega
        have f9 : ((n : Int) == 2 * (k : Int)) = true := by
          rw [beq_iff_eq]
          rcases F5.out with f7 | ⟨f7, c, _, f8⟩
          · omega
          · exact absurd c h1
        clear f4 F5
        refine wp_region_calm_lit w (by kernel_rfl) (by kernel_rfl) hC5 ?_
        repeat (first | go_big_quiet_step (fail) | (refine wpQuiet_step (fun K hK => ?_); go_simp; first | (refine hK _ ?_; clear hK K) | (refine ⟨_, fun _ _ => rfl, hK _ ?_⟩; clear hK K) | (apply Exists.intro; refine ⟨fun _ hc_ => ?_, hK _ ?_⟩; (fail); clear hK K)))
        refine wpQuiet_nil ?_
        intro w6 hC6
        clear hC5
        go_wp2
        refine wp_region_calm_lit w (by kernel_rfl) (by kernel_rfl) hC6 ?_
        repeat (first | go_big_quiet_step (fail) | (refine wpQuiet_step (fun K hK => ?_); go_simp; first | (refine hK _ ?_; clear hK K) | (refine ⟨_, fun _ _ => rfl, hK _ ?_⟩; clear hK K) | (apply Exists.intro; refine ⟨fun _ hc_ => ?_, hK _ ?_⟩; (first | exact Calm.call hc_ (CAA.out _) | exact Calm.call hc_ (wakes_c _)); clear hK K)))
        refine wpQuiet_nil ?_
        intro w7 hC7
        go_wp2
        go_ret
        exact ⟨rfl, hC7.below⟩
end Go.Proofs.Ytbgojedhciimaaa.NibC
