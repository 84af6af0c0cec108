/-
  The walk of umbellaw22.ListTells.
-/
import Derived.Test.YtbgojedhciimaaaLisW
namespace Go.Proofs.Ytbgojedhciimaaa.LisT
open Go.RowKit Go.Proofs.YtbgojedhciimaaaW.PrintWords Go.Proofs.YtbgojedhciimaaaW.PrintMore Go.Proofs.Ytbgojedhciimaaa.Cm Go.Proofs.Ytbgojedhciimaaa.Str Go.Proofs.Ytbgojedhciimaaa.LisH Go.Proofs.Ytbgojedhciimaaa.LisE Go.Proofs.Ytbgojedhciimaaa.LisS Go.Proofs.Ytbgojedhciimaaa.LisP Go.Proofs.Ytbgojedhciimaaa.LisC Go.Proofs.Ytbgojedhciimaaa.LisW Go.Proofs.Ytbgojedhciimaaa.PLis
set_option linter.unusedVariables false
open Classical
/-- What the row says of a slice of whole numbers that came in. -/
theorem c_of_row {W : World} {a : Option Addr} {len cap : Nat} {zs : List Int}
    (h : (a = none ∧ len = 0 ∧ cap = 0 ∧ zs = []) ∨ ∃ x, a = some x ∧ len ≤ cap ∧ cap ≤ maxLen ∧ zs.length = cap ∧ (∀ i, i < zs.length → W.cell? (x.add i) = some (.int .i64 (zs.getD i 0))) ∧ ∀ n ∈ zs, (Lit.int .i64 n).wf = true) :
    ∃ l : List Int, l.length = len ∧ len ≤ cap ∧ Kd.C (Kd.int .i64) W a l.length l ∧ ∀ n ∈ l, (Lit.int .i64 n).wf = true := by
  rcases h with ⟨rfl, rfl, rfl, rfl⟩ | ⟨x, rfl, h1, h2, h3, h4, h5⟩
  · exact ⟨[], rfl, Nat.le_refl _, ⟨rfl, by decide, fun h => by simp at h⟩, fun n hn => by cases hn⟩
  · have hln : (zs.take len).length = len := by rw [List.length_take]; omega
    refine ⟨zs.take len, hln, h1, ⟨rfl, by simp only [maxLen] at h2; omega, fun _ => ⟨x, rfl, fun j p hj => ⟨[.int .i64 p], rfl, rfl, fun i u hi => ?_⟩⟩⟩, fun n hn => h5 n (List.mem_of_mem_take hn)⟩
    obtain ⟨rfl, rfl⟩ : i = 0 ∧ u = .int .i64 p := by
      cases i with
      | zero => exact ⟨rfl, by simpa using hi.symm⟩
      | succ n => simp at hi
    rw [show j * (Kd.int .i64).sz + 0 = j from Nat.mul_one j]
    obtain ⟨hjl, hjv⟩ := List.getElem?_eq_some_iff.1 hj
    rw [hln] at hjl
    rw [h4 j (by omega)]
    rw [List.getElem_take] at hjv
    rw [← hjv]
    simp [List.getD_eq_getElem?_getD, List.getElem?_eq_getElem (show j < zs.length by omega)]
theorem x_tells (l : List Int) (next : Int) : decide (May l next) = !(enc l next).toList.isEmpty := by
  unfold enc
  by_cases m : May l next
  · rw [if_pos m, decide_eq_true m]
    have h : (strOfNums (encL l next)).toList ≠ [] := by
      rw [Ne, toList_nil, bytes_str _ (R_encL l next)]
      intro e
      have := congrArg List.length e
      rw [encL_len] at this
      simp at this
    simp [List.isEmpty_iff, h]
  · rw [if_neg m, decide_eq_false m]
    have h : E0.toList = [] := by rw [toList_nil]; rfl
    simp [h]
theorem ints_eq (A : Option Addr) (c : Nat) (A1 : Option Addr) (c1 : Nat) (l : List Int) (w : World) (hr : Kd.C (Kd.int .i64) w A l.length l) (hc : l.length ≤ c) (hr1 : Kd.C (Kd.int .i64) w A1 l.length l) (hc1 : l.length ≤ c1) (hl : l.length ≤ 1000) :
    Calls Try.prog 29 #[.slice A l.length c, .slice A1 l.length c1] w fun e w' => e = .returned (.bool true) ∧ Below w.heap.size w w' := by
  have h := ints_c A c l A1 c1 l w hr hc hr1 hc1 hl
  rw [decide_eq_true rfl] at h
  exact h.mono fun e w' ⟨q, b⟩ => ⟨q, b.below⟩
theorem lists_eq (A : Option Addr) (c : Nat) (A1 : Option Addr) (c1 : Nat) (l : List (List Int)) (w : World) (hr : Kd.C (Kd.slice 3 (Kd.int .i64)) w A l.length l) (hc : l.length ≤ c) (hr1 : Kd.C (Kd.slice 3 (Kd.int .i64)) w A1 l.length l) (hc1 : l.length ≤ c1) (hl : l.length ≤ 1000) (hx : ∀ x ∈ l, x.length ≤ 1000) :
    Calls Try.prog 30 #[.slice A l.length c, .slice A1 l.length c1] w fun e w' => e = .returned (.bool true) ∧ Below w.heap.size w w' := by
  have h := lists_c A c l A1 c1 l w hr hc hr1 hc1 hl hx
  rw [decide_eq_true rfl] at h
  exact h.mono fun e w' ⟨q, b⟩ => ⟨q, b.below⟩
theorem chunks_len (l : List Int) : (chunks l).length = (l.length + 19) / 20 := by simp [chunks]
theorem chunks_each (l : List Int) : ∀ x ∈ chunks l, x.length ≤ 20 := by
  intro x hx
  simp only [chunks, List.mem_map] at hx
  obtain ⟨m, _, rfl⟩ := hx
  rw [chk_len]; omega
theorem got_len (s : ByteArray) : (dec s).1.length ≤ s.size := by
  unfold dec got
  split
  · split
    · rw [prs_len]; omega
    · exact Nat.zero_le _
  · exact Nat.zero_le _
set_option maxHeartbeats 4000000 in
theorem tells (A : Option Addr) (c : Nat) (l : List Int) (next : Int) (s : ByteArray) (w : World) (hr : Kd.C (Kd.int .i64) w A l.length l) (hc : l.length ≤ c) (h63 : l.length ≤ 9223372036854775807) (hs63 : s.size ≤ 140737488351232) :
    Calls Try.prog 8 #[.slice A l.length c, .int .i64 next, .string s] w fun e w' => e = .returned (.bool true) ∧ Below w.heap.size w w' := by
  have HR := Lib.hid fun W (hb : Below w.heap.size w W) => Kd.C_below hr hb
  have W0 := Lib.hid wakes_c
  have hC0 := Cm.Calm.refl w
  by_cases q : l.length ≤ 500 ∧ s.size ≤ 500
  · obtain ⟨q1, q2⟩ := q
    have t1 : decide ((500 : Int) < (l.length : Int)) = false := decide_eq_false (by omega)
    have t2 : decide ((500 : Int) < (s.size : Int)) = false := decide_eq_false (by omega)
    go_enter Try.func8, Try.ntmps8
    have E := Lib.hid fun (A : Option Addr) (c : Nat) (W : World) (h : Kd.C (Kd.int .i64) W A l.length l) (hc : l.length ≤ c) => encode_c A c l next W h hc q1
    have RE := Lib.hid fun (W : World) (h : Below w.heap.size w W) => rencode_c A c l next W (HR.out W h) hc q1
    have D := Lib.hid fun (W : World) => decode_c s (by omega) W
    have RD := Lib.hid fun (W : World) => rdecode_c s (by omega) W
    have hx := x_tells l next
    have hdl0 := got_len s
    obtain ⟨en, hen⟩ : ∃ en, en = enc l next := ⟨_, rfl⟩
    obtain ⟨my, hmy⟩ : ∃ b, b = decide (May l next) := ⟨_, rfl⟩
    obtain ⟨dl, hdl⟩ : ∃ b, b = (dec s).1 := ⟨_, rfl⟩
    obtain ⟨dn, hdn⟩ : ∃ b, b = (dec s).2.1 := ⟨_, rfl⟩
    obtain ⟨dy, hdy⟩ : ∃ b, b = (dec s).2.2 := ⟨_, rfl⟩
    simp only [← hen, ← hmy, ← hdl, ← hdn, ← hdy] at E RE D RD hx hdl0
    clear hdl hdn hdy hen hmy
    go_wp2_with (first | ((with_reducible refine gate_dst (N := 24) rfl ?_); refine Kd.R_lit (Kd.int .i64) _ 3 ?hg (N := 24) ?hd (xs := ([] : List Int)) (inner := []) (ok := fun _ => True) (okp := fun _ => True) ?hr ?hp (fun _ hk => hk) trivial (Below.refl _ _) (Nat.le_refl _) (by simp) ?_; (case hd => rfl); (case hg => rfl); (case hr => first | (go_simp; done) | (go_simp; rfl)); (case hp => exact (Reps.none _ _)); intro v5 w9 ho5 hb5 hg_ hnew_; clear hg_ hnew_) | ((with_reducible refine gate_builtin (b := .append) (xs := #[.tmp 24, .tmp 25]) rfl ?_); at_builtin; refine Kd.R_append_row (Value.int .i64) (0 : Int) (h1 := fun _ => rfl) (w0 := w) w.heap.size rfl (.tmp 24) (.tmp 25) 39 3 (.int .i64 0) 8 rfl Try.underlying39 info3 rfl (by decide) v5 [] l _ _ _ (fun _ => True) rfl rfl (fun _ _ => trivial) ho5 ?aR ?aB ?aS ?aL ?_; (case aR => exact HR.out _ hb5); (case aB => exact hb5); (case aS => exact hb5.size); (case aL => simp; omega); intro v7 w7 ho7 hb7 hg7 hat7; clear hg7 hat7; rw [List.nil_append] at ho7))
    obtain ⟨A7, c7, rfl, hc7, hC7⟩ := Kd.R_reads ho7
    clear ho7
    clear ho5 hb5
    refine (E.out _ _ _ hC7 hc7).mono ?_
    rintro e w1 ⟨rfl, hB1⟩
    have hb1 : Below w.heap.size w w1 := hb7.trans (hB1.mono hb7.size)
    replace hC7 := Kd.C_below hC7 hB1
    clear hb7 hB1 E
    go_wp2_with fail
    refine (RE.out _ hb1).mono ?_
    rintro e w2 ⟨rfl, hB2⟩
    have hb2 : Below w.heap.size w w2 := hb1.trans (hB2.mono hb1.size)
    replace hC7 := Kd.C_below hC7 hB2
    clear hb1 hB2 RE
    go_wp2_with fail
    refine (D.out _).mono ?_
    rintro e w3 ⟨v3, rfl, hR3, hB3⟩
    obtain ⟨A3, c3, rfl, hc3, hC3⟩ := Kd.R_reads hR3
    have hb3 : Below w.heap.size w w3 := hb2.trans (hB3.mono hb2.size)
    replace hC7 := Kd.C_below hC7 hB3
    clear hb2 hB3 D hR3
    go_wp2_with fail
    refine (RD.out _).mono ?_
    rintro e w4 ⟨v4, rfl, hR4, hB4⟩
    obtain ⟨A4, c4, rfl, hc4, hC4⟩ := Kd.R_reads hR4
    have hb4 : Below w.heap.size w w4 := hb3.trans (hB4.mono hb3.size)
    replace hC7 := Kd.C_below hC7 hB4
    replace hC3 := Kd.C_below hC3 hB4
    clear hb3 hB4 RD hR4
    have I := Lib.hid fun (W : World) (hb : Below w4.heap.size w4 W) => ints_eq A3 c3 A4 c4 dl W (Kd.C_below hC3 hb) hc3 (Kd.C_below hC4 hb) hc4 (by omega)
    have Hx := Lib.hid hx
    subst hx
    go_wp2_with fail
    refine (I.out _ (below_alloc (Below.refl _ _) _)).mono ?_
    rintro e w5 ⟨rfl, hB5⟩
    have hk5 := blk_below (blk_new w4 (Obj.cells #[Value.slice A4 dl.length c4, Value.int IntKind.i64 dn, Value.bool dy] 45)) hB5
    have k1 := blk_cell hk5 1
    have k2 := blk_cell hk5 2
    simp only [List.getElem?_toArray, List.getElem?_cons_succ, List.getElem?_cons_zero] at k1 k2
    have hb5 : Below w.heap.size w w5 := (below_alloc hb4 _).trans (hB5.mono (by have := hb4.size; simp; omega))
    replace hC7 := Kd.C_below hC7 ((below_alloc (Below.refl _ w4) _).trans (hB5.mono (by simp)))
    clear hb4 hB5 I hk5
    go_wp2_with fail
    have hcl := Lib.hid (chunks_len l)
    have SP := Lib.hid (split_c A7 c7 l w5 hC7 hc7 q1)
    refine SP.out.mono ?_
    rintro e w6 ⟨v6, rfl, hR6, hB6⟩
    obtain ⟨A6, c6, rfl, hc6, hC6⟩ := Kd.R_reads hR6
    have hb6 : Below w.heap.size w w6 := hb5.trans (hB6.mono hb5.size)
    replace hC7 := Kd.C_below hC7 hB6
    clear hR6 hB6 hb5
    have RS := Lib.hid (rsplit_c A c l w6 (HR.out _ hb6) hc q1)
    go_wp2_with fail
    refine RS.out.mono ?_
    rintro e w8 ⟨v8, rfl, hR8, hB8⟩
    obtain ⟨A8, c8, rfl, hc8, hC8⟩ := Kd.R_reads (Kd.S_R hR8)
    have hb8 : Below w.heap.size w w8 := hb6.trans (hB8.mono hb6.size)
    replace hC7 := Kd.C_below hC7 hB8
    have L := Lib.hid (lists_eq A6 c6 A8 c8 (chunks l) w8 (Kd.C_below hC6 hB8) hc6 hC8 hc8 (by rw [hcl.out]; omega) (fun x hx => Nat.le_trans (chunks_each l x hx) (by decide)))
    clear hR8 hB8 hb6 RS
    go_wp2_with fail
    refine L.out.mono ?_
    rintro e w10 ⟨rfl, hB10⟩
    have hb10 : Below w.heap.size w w10 := hb8.trans (hB10.mono hb8.size)
    have J := Lib.hid (ints_eq A7 c7 A c l w10 (Kd.C_below hC7 hB10) hc7 (HR.out _ hb10) hc (by omega))
    clear hB10 hb8 L
    go_wp2_with fail
    refine J.out.mono ?_
    rintro e w11 ⟨rfl, hB11⟩
    have hb11 : Below w.heap.size w w11 := hb10.trans (hB11.mono hb10.size)
    clear J hB11 hb10
    go_wp2_with fail
    refine (W0.out _).mono ?_
    rintro e w12 ⟨rfl, hB12⟩
    have hb12 : Below w.heap.size w w12 := hb11.trans (hB12.mono hb11.size)
    go_wp2
    go_ret
    exact ⟨rfl, hb12⟩
  · go_enter Try.func8, Try.ntmps8
    by_cases q1 : l.length ≤ 500
    · have t1 : decide ((500 : Int) < (l.length : Int)) = false := decide_eq_false (by omega)
      have t2 : decide ((500 : Int) < (s.size : Int)) = true := decide_eq_true (by omega)
      go_wp2_with fail
      refine (Calm.call hC0 (W0.out _)).mono ?_
      rintro e w1 ⟨rfl, hC1⟩
      go_wp2
      go_ret
      exact ⟨rfl, hC1.below⟩
    · have t1 : decide ((500 : Int) < (l.length : Int)) = true := decide_eq_true (by omega)
      go_wp2_with fail
      refine (Calm.call hC0 (W0.out _)).mono ?_
      rintro e w1 ⟨rfl, hC1⟩
      go_wp2
      go_ret
      exact ⟨rfl, hC1.below⟩
theorem walk (a : Option Addr) (len cap : Nat) (z : List Int) (next : Int) (s : ByteArray) (W : World)
    (w0 : (a = none ∧ len = 0 ∧ cap = 0 ∧ z = []) ∨ ∃ x, a = some x ∧ len ≤ cap ∧ cap ≤ maxLen ∧ z.length = cap ∧ (∀ i, i < z.length → W.cell? (x.add i) = some (.int .i64 (z.getD i 0))) ∧ ∀ n ∈ z, (Lit.int .i64 n).wf = true)
    (y0 : len * 8 ≤ 140737488351232) (w1 : (Lit.int .i64 next).wf = true) (w2 : s.size ≤ 140737488351232) :
    Calls Try.prog 8 #[.slice a len cap, .int .i64 next, .string s] W fun e w' => e = .returned (.bool true) ∧ Below W.heap.size W w' := by
  obtain ⟨l, rfl, hc, hC, _⟩ := c_of_row w0
  exact tells a cap l next s W hC hc (by omega) w2
end Go.Proofs.Ytbgojedhciimaaa.LisT
