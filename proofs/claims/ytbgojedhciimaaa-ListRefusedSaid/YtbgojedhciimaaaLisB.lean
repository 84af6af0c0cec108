/-
  The walk of umbellaw22.ListBack.
-/
import Derived.Test.YtbgojedhciimaaaLisT
namespace Go.Proofs.Ytbgojedhciimaaa.LisB
open Go.RowKit Go.Proofs.YtbgojedhciimaaaW.PrintWords Go.Proofs.YtbgojedhciimaaaW.PrintMore Go.Proofs.Ytbgojedhciimaaa.Cm Go.Proofs.Ytbgojedhciimaaa.Str Go.Proofs.Ytbgojedhciimaaa.LisH Go.Proofs.Ytbgojedhciimaaa.LisE Go.Proofs.Ytbgojedhciimaaa.LisS Go.Proofs.Ytbgojedhciimaaa.LisP Go.Proofs.Ytbgojedhciimaaa.LisC Go.Proofs.Ytbgojedhciimaaa.LisW Go.Proofs.Ytbgojedhciimaaa.LisT Go.Proofs.Ytbgojedhciimaaa.PLis
set_option linter.unusedVariables false
open Classical
theorem rd_chunks (l : List Int) (i : Nat) (h : i < (l.length + 19) / 20) : rd_L2 (chunks l) (i : Int) = chk l i := by
  simp [rd_L2, chunks, List.getD_eq_getElem?_getD, h]
theorem dec_yes (s : ByteArray) (h : (dec s).2.2 = true) : May (dec s).1 (dec s).2.1 ∧ enc (dec s).1 (dec s).2.1 = s := by
  unfold dec got at h ⊢
  split at h
  · rename_i c
    rw [if_pos c]
    split at h
    · rename_i m
      rw [if_pos m]
      refine ⟨m, ?_⟩
      unfold enc
      rw [if_pos m, encL_dec s c.1 c.2, str_bytes]
    · cases h
  · cases h
theorem dec_no (s : ByteArray) (h : (dec s).2.2 = false) : (dec s).1 = [] ∧ (dec s).2.1 = 0 := by
  unfold dec got at h ⊢
  split at h
  · rename_i c
    rw [if_pos c]
    split at h
    · cases h
    · rename_i m
      rw [if_neg m]
      exact ⟨rfl, rfl⟩
  · rename_i c
    rw [if_neg c]
    exact ⟨rfl, rfl⟩
theorem enc_size (l : List Int) (next : Int) (m : May l next) : (enc l next).size ≤ 43 := by
  unfold enc
  rw [if_pos m, str_size, encL_len]
  have := m.2.1
  omega
set_option maxHeartbeats 8000000 in
theorem back (A : Option Addr) (c : Nat) (l : List Int) (next : Int) (s : ByteArray) (w : World) (hr : Kd.C (Kd.int .i64) w A l.length l) (hc : l.length ≤ c) (h63 : l.length ≤ 9223372036854775807) (hs63 : s.size ≤ 140737488351232) :
    Calls Try.prog 9 #[.slice A l.length c, .int .i64 next, .string s] w fun e w' => e = .returned (.bool true) ∧ Below w.heap.size w w' := by
  have HR := Lib.hid fun W (hb : Below w.heap.size w W) => Kd.C_below hr hb
  have W0 := Lib.hid wakes_c
  have hC0 := Cm.Calm.refl w
  by_cases q : l.length ≤ 500 ∧ s.size ≤ 500
  · obtain ⟨q1, q2⟩ := q
    have t1 : decide ((500 : Int) < (l.length : Int)) = false := decide_eq_false (by omega)
    have t2 : decide ((500 : Int) < (s.size : Int)) = false := decide_eq_false (by omega)
    have E := Lib.hid (encode_c A c l next w hr hc q1)
    clear hr
    have D := Lib.hid fun (W : World) => decode_c s (by omega) W
    have hy := dec_yes s
    have hno := dec_no s
    obtain ⟨dl, hdl⟩ : ∃ b, b = (dec s).1 := ⟨_, rfl⟩
    obtain ⟨dn, hdn⟩ : ∃ b, b = (dec s).2.1 := ⟨_, rfl⟩
    obtain ⟨dy, hdy⟩ : ∃ b, b = (dec s).2.2 := ⟨_, rfl⟩
    simp only [← hdl, ← hdn, ← hdy] at D hy hno
    clear hdl hdn hdy
    go_enter Try.func9, Try.ntmps9
    by_cases m : May l next
    · have hsz := enc_size l next m
      have D0 := Lib.hid fun (W : World) => decode_c (enc l next) (by omega) W
      rw [dec_enc l next m] at D0
      rw [decide_eq_true m] at E
      obtain ⟨en, hen⟩ : ∃ en, en = enc l next := ⟨_, rfl⟩
      simp only [← hen] at E D0 hsz
      clear hen
      have t3 : decide ((243 : Int) < (en.size : Int)) = false := decide_eq_false (by omega)
      go_wp2_with fail
      refine E.out.mono ?_
      rintro e w1 ⟨rfl, hb1⟩
      clear E
      go_wp2_with fail
      refine (D0.out _).mono ?_
      rintro e w2 ⟨v2, rfl, hR2, hB2⟩
      obtain ⟨A2, c2, rfl, hc2, hC2⟩ := Kd.R_reads hR2
      have hb2 : Below w.heap.size w w2 := hb1.trans (hB2.mono hb1.size)
      have I2 := Lib.hid (ints_eq A2 c2 A c l w2 hC2 hc2 (HR.out _ hb2) hc (by omega))
      clear hR2 hC2 hb1 hB2 D0
      go_wp2_with fail
      refine I2.out.mono ?_
      rintro e w3 ⟨rfl, hB3⟩
      have hb3 : Below w.heap.size w w3 := hb2.trans (hB3.mono hb2.size)
      clear hb2 hB3 I2
      go_wp2_with fail
      refine (D.out _).mono ?_
      rintro e w4 ⟨v4, rfl, hR4, hB4⟩
      obtain ⟨A4, c4, rfl, hc4, hC4⟩ := Kd.R_reads hR4
      have hb4 : Below w.heap.size w w4 := hb3.trans (hB4.mono hb3.size)
      clear hR4 hb3 hB4 D
      cases dy with
      | true =>
        obtain ⟨my, he⟩ := hy rfl
        have E2 := Lib.hid (encode_c A4 c4 dl dn w4 hC4 hc4 (by have := my.2.1; omega))
        rw [decide_eq_true my, he] at E2
        clear hno hy he hC4 my
        go_wp2_with fail
        refine E2.out.mono ?_
        rintro e w5 ⟨rfl, hB5⟩
        have hb5 : Below w.heap.size w w5 := hb4.trans (hB5.mono hb4.size)
        clear E2 hB5 hb4
        have SP := Lib.hid (split_c A c l w5 (HR.out _ hb5) hc q1)
        go_wp2_with fail
        refine SP.out.mono ?_
        rintro e w6 ⟨v6, rfl, hR6, hB6⟩
        obtain ⟨A6, c6, rfl, hc6, hC6⟩ := Kd.R_reads hR6
        have hb6 : Below w.heap.size w w6 := hb5.trans (hB6.mono hb5.size)
        have HC6 := Lib.hid fun W (hb : Below w6.heap.size w6 W) => Kd.C_below hC6 hb
        clear hR6 hB6 SP hC6
        obtain ⟨n, hn⟩ : ∃ n, n = (chunks l).length := ⟨_, rfl⟩
        rw [← hn]
        have Hn := Lib.hid (hn.trans (chunks_len l))
        rw [← hn] at HC6
        clear hn hc6
        have hnb : n ≤ 26 := by have := Hn.out; omega
        go_wp2_with fail
        go_loopw [18, 19] (fun v18 v19 w' => ∃ (i : Nat), i ≤ n ∧ v19 = .int .i64 (i : Int) ∧ Aside0 (Kd.R (Kd.int .i64) 3 w' w6.heap.size (fun _ => True) v18 (l.take (20 * i))) ∧ Aside0 (Below w6.heap.size w6 w')) (fun _ v19 _ => (n - intOf v19).toNat)
        case atStart => exact ⟨0, Nat.zero_le _, rfl, ⟨Kd.R_nil _ _ _ _ _⟩, ⟨Below.refl _ _⟩⟩
        case round =>
          obtain ⟨i, hi, rfl, HO, HB⟩ := hrel
          by_cases hlt : i < n
          · have p1 : decide ((i : Int) < (n : Int)) = true := decide_eq_true (by omega)
            have e3 : rd_L2 (chunks l) (i : Int) = chk l i := rd_chunks l i (by have := Hn.out; omega)
            obtain ⟨ad, A0, c0, rfl, hx, hcc, hCC⟩ := at_L2 (HC6.out _ HB.out) (i : Int) (by omega) (by omega)
            rw [e3] at hx hcc hCC
            clear e3
            obtain ⟨m, hm⟩ : ∃ m, m = (chk l i).length := ⟨_, rfl⟩
            have Hm := Lib.hid (hm.trans (chk_len l i))
            rw [← hm] at hx hcc hCC
            rw [Int.toNat_natCast] at hx
            have f0 : (m : Int) ≠ 0 := by have := Hm.out; have := Hn.out; omega
            have f1 : decide ((m : Int) = 0) = false := decide_eq_false f0
            have f2 : decide ((20 : Int) < (m : Int)) = false := decide_eq_false (by have := Hm.out; omega)
            have f3 : decide ((i : Int) + 1 < (n : Int)) = true → (m : Int) = 20 := fun h => by have := of_decide_eq_true h; have := Hm.out; have := Hn.out; omega
            have e5 : l.take (20 * i) ++ chk l i = l.take (20 * (i + 1)) := by rw [chk, ← List.take_add]; rfl
            have Hm2 := Lib.hid hm
            clear hm
            have HCC := Lib.hid hCC
            clear hCC
            cases hf4 : decide ((i : Int) + 1 < (n : Int)) with
            | true =>
              have f5 := f3 hf4
              clear f3
              go_wp2_with ((with_reducible refine gate_builtin (b := .append) (xs := #[.tmp 124, .tmp 128]) rfl ?_); at_builtin; refine Kd.R_append_row (Value.int .i64) (0 : Int) (h1 := fun _ => rfl) (w0 := w6) w6.heap.size rfl (.tmp 124) (.tmp 128) 39 3 (.int .i64 0) 8 rfl Try.underlying39 PLis.info3 rfl (by decide) u18 (l.take (20 * i)) (chk l i) _ _ _ (fun _ => True) rfl rfl (fun _ _ => trivial) HO.out HCC.out HB.out HB.out.size (by rw [List.length_take]; have := Hm.out; omega) ?_; intro v5 w5 ho5 hb5 hg5 hat5)
              rw [e5] at ho5
              exact ⟨⟨i + 1, hlt, by simp, ⟨ho5⟩, ⟨hb5⟩⟩, by simp [intOf]; omega⟩
            | false =>
              clear f3
              go_wp2_with ((with_reducible refine gate_builtin (b := .append) (xs := #[.tmp 124, .tmp 128]) rfl ?_); at_builtin; refine Kd.R_append_row (Value.int .i64) (0 : Int) (h1 := fun _ => rfl) (w0 := w6) w6.heap.size rfl (.tmp 124) (.tmp 128) 39 3 (.int .i64 0) 8 rfl Try.underlying39 PLis.info3 rfl (by decide) u18 (l.take (20 * i)) (chk l i) _ _ _ (fun _ => True) rfl rfl (fun _ _ => trivial) HO.out HCC.out HB.out HB.out.size (by rw [List.length_take]; have := Hm.out; omega) ?_; intro v5 w5 ho5 hb5 hg5 hat5)
              rw [e5] at ho5
              exact ⟨⟨i + 1, hlt, by simp, ⟨ho5⟩, ⟨hb5⟩⟩, by simp [intOf]; omega⟩
          · have p1 : decide ((i : Int) < (n : Int)) = false := decide_eq_false (by omega)
            obtain ⟨A7, c7, rfl, hc7, hC7⟩ := Kd.R_reads HO.out
            rw [show l.take (20 * i) = l from List.take_of_length_le (by have := Hn.out; omega)] at hc7 hC7 ⊢
            have hbr : Below w.heap.size w wr := hb6.trans (HB.out.mono hb6.size)
            have J := Lib.hid (ints_eq A7 c7 A c l wr hC7 hc7 (HR.out _ hbr) hc (by omega))
            go_wp2_with fail
            refine J.out.mono ?_
            rintro e w11 ⟨rfl, hB11⟩
            have hb11 : Below w.heap.size w w11 := hbr.trans (hB11.mono hbr.size)
            clear J hB11
            go_wp2_with fail
            refine (W0.out _).mono ?_
            rintro e w12 ⟨rfl, hB12⟩
            have hb12 : Below w.heap.size w w12 := hb11.trans (hB12.mono hb11.size)
            go_wp2
            go_ret
            exact ⟨rfl, hb12⟩
      | false =>
        obtain ⟨rfl, rfl⟩ := hno rfl
        simp only [List.length_nil]
        clear hy hC4
        have SP := Lib.hid (split_c A c l w4 (HR.out _ hb4) hc q1)
        go_wp2_with fail
        refine SP.out.mono ?_
        rintro e w6 ⟨v6, rfl, hR6, hB6⟩
        obtain ⟨A6, c6, rfl, hc6, hC6⟩ := Kd.R_reads hR6
        have hb6 : Below w.heap.size w w6 := hb4.trans (hB6.mono hb4.size)
        have HC6 := Lib.hid fun W (hb : Below w6.heap.size w6 W) => Kd.C_below hC6 hb
        clear hR6 hB6 SP hC6
        obtain ⟨n, hn⟩ : ∃ n, n = (chunks l).length := ⟨_, rfl⟩
        rw [← hn]
        have Hn := Lib.hid (hn.trans (chunks_len l))
        rw [← hn] at HC6
        clear hn hc6
        have hnb : n ≤ 26 := by have := Hn.out; omega
        go_wp2_with fail
        go_loopw [18, 19] (fun v18 v19 w' => ∃ (i : Nat), i ≤ n ∧ v19 = .int .i64 (i : Int) ∧ Aside0 (Kd.R (Kd.int .i64) 3 w' w6.heap.size (fun _ => True) v18 (l.take (20 * i))) ∧ Aside0 (Below w6.heap.size w6 w')) (fun _ v19 _ => (n - intOf v19).toNat)
        case atStart => exact ⟨0, Nat.zero_le _, rfl, ⟨Kd.R_nil _ _ _ _ _⟩, ⟨Below.refl _ _⟩⟩
        case round =>
          obtain ⟨i, hi, rfl, HO, HB⟩ := hrel
          by_cases hlt : i < n
          · have p1 : decide ((i : Int) < (n : Int)) = true := decide_eq_true (by omega)
            have e3 : rd_L2 (chunks l) (i : Int) = chk l i := rd_chunks l i (by have := Hn.out; omega)
            obtain ⟨ad, A0, c0, rfl, hx, hcc, hCC⟩ := at_L2 (HC6.out _ HB.out) (i : Int) (by omega) (by omega)
            rw [e3] at hx hcc hCC
            clear e3
            obtain ⟨m, hm⟩ : ∃ m, m = (chk l i).length := ⟨_, rfl⟩
            have Hm := Lib.hid (hm.trans (chk_len l i))
            rw [← hm] at hx hcc hCC
            rw [Int.toNat_natCast] at hx
            have f0 : (m : Int) ≠ 0 := by have := Hm.out; have := Hn.out; omega
            have f1 : decide ((m : Int) = 0) = false := decide_eq_false f0
            have f2 : decide ((20 : Int) < (m : Int)) = false := decide_eq_false (by have := Hm.out; omega)
            have f3 : decide ((i : Int) + 1 < (n : Int)) = true → (m : Int) = 20 := fun h => by have := of_decide_eq_true h; have := Hm.out; have := Hn.out; omega
            have e5 : l.take (20 * i) ++ chk l i = l.take (20 * (i + 1)) := by rw [chk, ← List.take_add]; rfl
            have Hm2 := Lib.hid hm
            clear hm
            have HCC := Lib.hid hCC
            clear hCC
            cases hf4 : decide ((i : Int) + 1 < (n : Int)) with
            | true =>
              have f5 := f3 hf4
              clear f3
              go_wp2_with ((with_reducible refine gate_builtin (b := .append) (xs := #[.tmp 124, .tmp 128]) rfl ?_); at_builtin; refine Kd.R_append_row (Value.int .i64) (0 : Int) (h1 := fun _ => rfl) (w0 := w6) w6.heap.size rfl (.tmp 124) (.tmp 128) 39 3 (.int .i64 0) 8 rfl Try.underlying39 PLis.info3 rfl (by decide) u18 (l.take (20 * i)) (chk l i) _ _ _ (fun _ => True) rfl rfl (fun _ _ => trivial) HO.out HCC.out HB.out HB.out.size (by rw [List.length_take]; have := Hm.out; omega) ?_; intro v5 w5 ho5 hb5 hg5 hat5)
              rw [e5] at ho5
              exact ⟨⟨i + 1, hlt, by simp, ⟨ho5⟩, ⟨hb5⟩⟩, by simp [intOf]; omega⟩
            | false =>
              clear f3
              go_wp2_with ((with_reducible refine gate_builtin (b := .append) (xs := #[.tmp 124, .tmp 128]) rfl ?_); at_builtin; refine Kd.R_append_row (Value.int .i64) (0 : Int) (h1 := fun _ => rfl) (w0 := w6) w6.heap.size rfl (.tmp 124) (.tmp 128) 39 3 (.int .i64 0) 8 rfl Try.underlying39 PLis.info3 rfl (by decide) u18 (l.take (20 * i)) (chk l i) _ _ _ (fun _ => True) rfl rfl (fun _ _ => trivial) HO.out HCC.out HB.out HB.out.size (by rw [List.length_take]; have := Hm.out; omega) ?_; intro v5 w5 ho5 hb5 hg5 hat5)
              rw [e5] at ho5
              exact ⟨⟨i + 1, hlt, by simp, ⟨ho5⟩, ⟨hb5⟩⟩, by simp [intOf]; omega⟩
          · have p1 : decide ((i : Int) < (n : Int)) = false := decide_eq_false (by omega)
            obtain ⟨A7, c7, rfl, hc7, hC7⟩ := Kd.R_reads HO.out
            rw [show l.take (20 * i) = l from List.take_of_length_le (by have := Hn.out; omega)] at hc7 hC7 ⊢
            have hbr : Below w.heap.size w wr := hb6.trans (HB.out.mono hb6.size)
            have J := Lib.hid (ints_eq A7 c7 A c l wr hC7 hc7 (HR.out _ hbr) hc (by omega))
            go_wp2_with fail
            refine J.out.mono ?_
            rintro e w11 ⟨rfl, hB11⟩
            have hb11 : Below w.heap.size w w11 := hbr.trans (hB11.mono hbr.size)
            clear J hB11
            go_wp2_with fail
            refine (W0.out _).mono ?_
            rintro e w12 ⟨rfl, hB12⟩
            have hb12 : Below w.heap.size w w12 := hb11.trans (hB12.mono hb11.size)
            go_wp2
            go_ret
            exact ⟨rfl, hb12⟩
    · rw [decide_eq_false m] at E
      obtain ⟨en, hen⟩ : ∃ en, en = enc l next := ⟨_, rfl⟩
      simp only [← hen] at E
      clear hen
      go_wp2_with fail
      refine E.out.mono ?_
      rintro e w3 ⟨rfl, hb3⟩
      clear E
      go_wp2_with fail
      refine (D.out _).mono ?_
      rintro e w4 ⟨v4, rfl, hR4, hB4⟩
      obtain ⟨A4, c4, rfl, hc4, hC4⟩ := Kd.R_reads hR4
      have hb4 : Below w.heap.size w w4 := hb3.trans (hB4.mono hb3.size)
      clear hR4 hb3 hB4 D
      cases dy with
      | true =>
        obtain ⟨my, he⟩ := hy rfl
        have E2 := Lib.hid (encode_c A4 c4 dl dn w4 hC4 hc4 (by have := my.2.1; omega))
        rw [decide_eq_true my, he] at E2
        clear hno hy he hC4 my
        go_wp2_with fail
        refine E2.out.mono ?_
        rintro e w5 ⟨rfl, hB5⟩
        have hb5 : Below w.heap.size w w5 := hb4.trans (hB5.mono hb4.size)
        clear E2 hB5 hb4
        have SP := Lib.hid (split_c A c l w5 (HR.out _ hb5) hc q1)
        go_wp2_with fail
        refine SP.out.mono ?_
        rintro e w6 ⟨v6, rfl, hR6, hB6⟩
        obtain ⟨A6, c6, rfl, hc6, hC6⟩ := Kd.R_reads hR6
        have hb6 : Below w.heap.size w w6 := hb5.trans (hB6.mono hb5.size)
        have HC6 := Lib.hid fun W (hb : Below w6.heap.size w6 W) => Kd.C_below hC6 hb
        clear hR6 hB6 SP hC6
        obtain ⟨n, hn⟩ : ∃ n, n = (chunks l).length := ⟨_, rfl⟩
        rw [← hn]
        have Hn := Lib.hid (hn.trans (chunks_len l))
        rw [← hn] at HC6
        clear hn hc6
        have hnb : n ≤ 26 := by have := Hn.out; omega
        go_wp2_with fail
        go_loopw [18, 19] (fun v18 v19 w' => ∃ (i : Nat), i ≤ n ∧ v19 = .int .i64 (i : Int) ∧ Aside0 (Kd.R (Kd.int .i64) 3 w' w6.heap.size (fun _ => True) v18 (l.take (20 * i))) ∧ Aside0 (Below w6.heap.size w6 w')) (fun _ v19 _ => (n - intOf v19).toNat)
        case atStart => exact ⟨0, Nat.zero_le _, rfl, ⟨Kd.R_nil _ _ _ _ _⟩, ⟨Below.refl _ _⟩⟩
        case round =>
          obtain ⟨i, hi, rfl, HO, HB⟩ := hrel
          by_cases hlt : i < n
          · have p1 : decide ((i : Int) < (n : Int)) = true := decide_eq_true (by omega)
            have e3 : rd_L2 (chunks l) (i : Int) = chk l i := rd_chunks l i (by have := Hn.out; omega)
            obtain ⟨ad, A0, c0, rfl, hx, hcc, hCC⟩ := at_L2 (HC6.out _ HB.out) (i : Int) (by omega) (by omega)
            rw [e3] at hx hcc hCC
            clear e3
            obtain ⟨m, hm⟩ : ∃ m, m = (chk l i).length := ⟨_, rfl⟩
            have Hm := Lib.hid (hm.trans (chk_len l i))
            rw [← hm] at hx hcc hCC
            rw [Int.toNat_natCast] at hx
            have f0 : (m : Int) ≠ 0 := by have := Hm.out; have := Hn.out; omega
            have f1 : decide ((m : Int) = 0) = false := decide_eq_false f0
            have f2 : decide ((20 : Int) < (m : Int)) = false := decide_eq_false (by have := Hm.out; omega)
            have f3 : decide ((i : Int) + 1 < (n : Int)) = true → (m : Int) = 20 := fun h => by have := of_decide_eq_true h; have := Hm.out; have := Hn.out; omega
            have e5 : l.take (20 * i) ++ chk l i = l.take (20 * (i + 1)) := by rw [chk, ← List.take_add]; rfl
            have Hm2 := Lib.hid hm
            clear hm
            have HCC := Lib.hid hCC
            clear hCC
            cases hf4 : decide ((i : Int) + 1 < (n : Int)) with
            | true =>
              have f5 := f3 hf4
              clear f3
              go_wp2_with ((with_reducible refine gate_builtin (b := .append) (xs := #[.tmp 124, .tmp 128]) rfl ?_); at_builtin; refine Kd.R_append_row (Value.int .i64) (0 : Int) (h1 := fun _ => rfl) (w0 := w6) w6.heap.size rfl (.tmp 124) (.tmp 128) 39 3 (.int .i64 0) 8 rfl Try.underlying39 PLis.info3 rfl (by decide) u18 (l.take (20 * i)) (chk l i) _ _ _ (fun _ => True) rfl rfl (fun _ _ => trivial) HO.out HCC.out HB.out HB.out.size (by rw [List.length_take]; have := Hm.out; omega) ?_; intro v5 w5 ho5 hb5 hg5 hat5)
              rw [e5] at ho5
              exact ⟨⟨i + 1, hlt, by simp, ⟨ho5⟩, ⟨hb5⟩⟩, by simp [intOf]; omega⟩
            | false =>
              clear f3
              go_wp2_with ((with_reducible refine gate_builtin (b := .append) (xs := #[.tmp 124, .tmp 128]) rfl ?_); at_builtin; refine Kd.R_append_row (Value.int .i64) (0 : Int) (h1 := fun _ => rfl) (w0 := w6) w6.heap.size rfl (.tmp 124) (.tmp 128) 39 3 (.int .i64 0) 8 rfl Try.underlying39 PLis.info3 rfl (by decide) u18 (l.take (20 * i)) (chk l i) _ _ _ (fun _ => True) rfl rfl (fun _ _ => trivial) HO.out HCC.out HB.out HB.out.size (by rw [List.length_take]; have := Hm.out; omega) ?_; intro v5 w5 ho5 hb5 hg5 hat5)
              rw [e5] at ho5
              exact ⟨⟨i + 1, hlt, by simp, ⟨ho5⟩, ⟨hb5⟩⟩, by simp [intOf]; omega⟩
          · have p1 : decide ((i : Int) < (n : Int)) = false := decide_eq_false (by omega)
            obtain ⟨A7, c7, rfl, hc7, hC7⟩ := Kd.R_reads HO.out
            rw [show l.take (20 * i) = l from List.take_of_length_le (by have := Hn.out; omega)] at hc7 hC7 ⊢
            have hbr : Below w.heap.size w wr := hb6.trans (HB.out.mono hb6.size)
            have J := Lib.hid (ints_eq A7 c7 A c l wr hC7 hc7 (HR.out _ hbr) hc (by omega))
            go_wp2_with fail
            refine J.out.mono ?_
            rintro e w11 ⟨rfl, hB11⟩
            have hb11 : Below w.heap.size w w11 := hbr.trans (hB11.mono hbr.size)
            clear J hB11
            go_wp2_with fail
            refine (W0.out _).mono ?_
            rintro e w12 ⟨rfl, hB12⟩
            have hb12 : Below w.heap.size w w12 := hb11.trans (hB12.mono hb11.size)
            go_wp2
            go_ret
            exact ⟨rfl, hb12⟩
      | false =>
        obtain ⟨rfl, rfl⟩ := hno rfl
        simp only [List.length_nil]
        clear hy hC4
        have SP := Lib.hid (split_c A c l w4 (HR.out _ hb4) hc q1)
        go_wp2_with fail
        refine SP.out.mono ?_
        rintro e w6 ⟨v6, rfl, hR6, hB6⟩
        obtain ⟨A6, c6, rfl, hc6, hC6⟩ := Kd.R_reads hR6
        have hb6 : Below w.heap.size w w6 := hb4.trans (hB6.mono hb4.size)
        have HC6 := Lib.hid fun W (hb : Below w6.heap.size w6 W) => Kd.C_below hC6 hb
        clear hR6 hB6 SP hC6
        obtain ⟨n, hn⟩ : ∃ n, n = (chunks l).length := ⟨_, rfl⟩
        rw [← hn]
        have Hn := Lib.hid (hn.trans (chunks_len l))
        rw [← hn] at HC6
        clear hn hc6
        have hnb : n ≤ 26 := by have := Hn.out; omega
        go_wp2_with fail
        go_loopw [18, 19] (fun v18 v19 w' => ∃ (i : Nat), i ≤ n ∧ v19 = .int .i64 (i : Int) ∧ Aside0 (Kd.R (Kd.int .i64) 3 w' w6.heap.size (fun _ => True) v18 (l.take (20 * i))) ∧ Aside0 (Below w6.heap.size w6 w')) (fun _ v19 _ => (n - intOf v19).toNat)
        case atStart => exact ⟨0, Nat.zero_le _, rfl, ⟨Kd.R_nil _ _ _ _ _⟩, ⟨Below.refl _ _⟩⟩
        case round =>
          obtain ⟨i, hi, rfl, HO, HB⟩ := hrel
          by_cases hlt : i < n
          · have p1 : decide ((i : Int) < (n : Int)) = true := decide_eq_true (by omega)
            have e3 : rd_L2 (chunks l) (i : Int) = chk l i := rd_chunks l i (by have := Hn.out; omega)
            obtain ⟨ad, A0, c0, rfl, hx, hcc, hCC⟩ := at_L2 (HC6.out _ HB.out) (i : Int) (by omega) (by omega)
            rw [e3] at hx hcc hCC
            clear e3
            obtain ⟨m, hm⟩ : ∃ m, m = (chk l i).length := ⟨_, rfl⟩
            have Hm := Lib.hid (hm.trans (chk_len l i))
            rw [← hm] at hx hcc hCC
            rw [Int.toNat_natCast] at hx
            have f0 : (m : Int) ≠ 0 := by have := Hm.out; have := Hn.out; omega
            have f1 : decide ((m : Int) = 0) = false := decide_eq_false f0
            have f2 : decide ((20 : Int) < (m : Int)) = false := decide_eq_false (by have := Hm.out; omega)
            have f3 : decide ((i : Int) + 1 < (n : Int)) = true → (m : Int) = 20 := fun h => by have := of_decide_eq_true h; have := Hm.out; have := Hn.out; omega
            have e5 : l.take (20 * i) ++ chk l i = l.take (20 * (i + 1)) := by rw [chk, ← List.take_add]; rfl
            have Hm2 := Lib.hid hm
            clear hm
            have HCC := Lib.hid hCC
            clear hCC
            cases hf4 : decide ((i : Int) + 1 < (n : Int)) with
            | true =>
              have f5 := f3 hf4
              clear f3
              go_wp2_with ((with_reducible refine gate_builtin (b := .append) (xs := #[.tmp 124, .tmp 128]) rfl ?_); at_builtin; refine Kd.R_append_row (Value.int .i64) (0 : Int) (h1 := fun _ => rfl) (w0 := w6) w6.heap.size rfl (.tmp 124) (.tmp 128) 39 3 (.int .i64 0) 8 rfl Try.underlying39 PLis.info3 rfl (by decide) u18 (l.take (20 * i)) (chk l i) _ _ _ (fun _ => True) rfl rfl (fun _ _ => trivial) HO.out HCC.out HB.out HB.out.size (by rw [List.length_take]; have := Hm.out; omega) ?_; intro v5 w5 ho5 hb5 hg5 hat5)
              rw [e5] at ho5
              exact ⟨⟨i + 1, hlt, by simp, ⟨ho5⟩, ⟨hb5⟩⟩, by simp [intOf]; omega⟩
            | false =>
              clear f3
              go_wp2_with ((with_reducible refine gate_builtin (b := .append) (xs := #[.tmp 124, .tmp 128]) rfl ?_); at_builtin; refine Kd.R_append_row (Value.int .i64) (0 : Int) (h1 := fun _ => rfl) (w0 := w6) w6.heap.size rfl (.tmp 124) (.tmp 128) 39 3 (.int .i64 0) 8 rfl Try.underlying39 PLis.info3 rfl (by decide) u18 (l.take (20 * i)) (chk l i) _ _ _ (fun _ => True) rfl rfl (fun _ _ => trivial) HO.out HCC.out HB.out HB.out.size (by rw [List.length_take]; have := Hm.out; omega) ?_; intro v5 w5 ho5 hb5 hg5 hat5)
              rw [e5] at ho5
              exact ⟨⟨i + 1, hlt, by simp, ⟨ho5⟩, ⟨hb5⟩⟩, by simp [intOf]; omega⟩
          · have p1 : decide ((i : Int) < (n : Int)) = false := decide_eq_false (by omega)
            obtain ⟨A7, c7, rfl, hc7, hC7⟩ := Kd.R_reads HO.out
            rw [show l.take (20 * i) = l from List.take_of_length_le (by have := Hn.out; omega)] at hc7 hC7 ⊢
            have hbr : Below w.heap.size w wr := hb6.trans (HB.out.mono hb6.size)
            have J := Lib.hid (ints_eq A7 c7 A c l wr hC7 hc7 (HR.out _ hbr) hc (by omega))
            go_wp2_with fail
            refine J.out.mono ?_
            rintro e w11 ⟨rfl, hB11⟩
            have hb11 : Below w.heap.size w w11 := hbr.trans (hB11.mono hbr.size)
            clear J hB11
            go_wp2_with fail
            refine (W0.out _).mono ?_
            rintro e w12 ⟨rfl, hB12⟩
            have hb12 : Below w.heap.size w w12 := hb11.trans (hB12.mono hb11.size)
            go_wp2
            go_ret
            exact ⟨rfl, hb12⟩
  · go_enter Try.func9, Try.ntmps9
    by_cases q1 : l.length ≤ 500
    · have t1 : decide ((500 : Int) < (l.length : Int)) = false := decide_eq_false (by omega)
      have t2 : decide ((500 : Int) < (s.size : Int)) = true := decide_eq_true (by omega)
      go_wp2_with fail
      refine (Calm.call hC0 (W0.out _)).mono ?_
      rintro e w1 ⟨rfl, hC1⟩
      go_wp2
      go_ret
      exact ⟨rfl, hC1.below⟩
    · have t1 : decide ((500 : Int) < (l.length : Int)) = true := decide_eq_true (by omega)
      go_wp2_with fail
      refine (Calm.call hC0 (W0.out _)).mono ?_
      rintro e w1 ⟨rfl, hC1⟩
      go_wp2
      go_ret
      exact ⟨rfl, hC1.below⟩
theorem walk (a : Option Addr) (len cap : Nat) (z : List Int) (next : Int) (s : ByteArray) (W : World)
    (w0 : (a = none ∧ len = 0 ∧ cap = 0 ∧ z = []) ∨ ∃ x, a = some x ∧ len ≤ cap ∧ cap ≤ maxLen ∧ z.length = cap ∧ (∀ i, i < z.length → W.cell? (x.add i) = some (.int .i64 (z.getD i 0))) ∧ ∀ n ∈ z, (Lit.int .i64 n).wf = true)
    (y0 : len * 8 ≤ 140737488351232) (w1 : (Lit.int .i64 next).wf = true) (w2 : s.size ≤ 140737488351232) :
    Calls Try.prog 9 #[.slice a len cap, .int .i64 next, .string s] W fun e w' => e = .returned (.bool true) ∧ Below W.heap.size W w' := by
  obtain ⟨l, rfl, hc, hC, _⟩ := c_of_row w0
  exact back a cap l next s W hC hc (by omega) w2
end Go.Proofs.Ytbgojedhciimaaa.LisB
