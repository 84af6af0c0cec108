/-
  Clean contracts of package list.
-/
import Derived.Test.YtbgojedhciimaaaLisP
namespace Go.Proofs.Ytbgojedhciimaaa.LisC
open Go.RowKit Go.Proofs.YtbgojedhciimaaaW.PrintWords Go.Proofs.YtbgojedhciimaaaW.PrintMore Go.Proofs.Ytbgojedhciimaaa.Cm Go.Proofs.Ytbgojedhciimaaa.Str Go.Proofs.Ytbgojedhciimaaa.LisH Go.Proofs.Ytbgojedhciimaaa.LisE Go.Proofs.Ytbgojedhciimaaa.LisS Go.Proofs.Ytbgojedhciimaaa.LisP Go.Proofs.Ytbgojedhciimaaa.PLis
set_option linter.unusedVariables false
open Classical
theorem encode_c (A : Option Addr) (c : Nat) (l : List Int) (next : Int) (w : World) (hr : Kd.C (Kd.int .i64) w A l.length l) (hc : l.length ≤ c) (hl : l.length ≤ 500) :
    Calls Try.prog 25 #[.slice A l.length c, .int .i64 next] w fun e w' => e = .returned (.tuple #[.string (enc l next), .bool (decide (May l next))]) ∧ Below w.heap.size w w' := by
  have h := may_f l next (by omega) (l.length + 1) (by omega)
  unfold enc
  by_cases m : May l next
  · rw [if_pos m, decide_eq_true m]
    rw [decide_eq_true m] at h
    exact enc_yes _ A c l next w hr hc m.2.1 h
  · rw [if_neg m, decide_eq_false m]
    rw [decide_eq_false m] at h
    exact enc_no _ A c l next w hr hc h
theorem decode_c (s : ByteArray) (hs : s.size ≤ 1000) (w : World) :
    Calls Try.prog 27 #[.string s] w fun e w' => ∃ v, e = .returned (.tuple #[v, .int .i64 (dec s).2.1, .bool (dec s).2.2]) ∧ Kd.R (Kd.int .i64) 3 w' w.heap.size (fun _ => True) v (dec s).1 ∧ Below w.heap.size w w' :=
  list_Decode.calls 2001 s (dec s).1 (dec s).2.1 (dec s).2.2 w (dec_f s hs 2001 (by omega))
theorem rencode_c (A : Option Addr) (c : Nat) (l : List Int) (next : Int) (w : World) (hr : Kd.C (Kd.int .i64) w A l.length l) (hc : l.length ≤ c) (hl : l.length ≤ 500) :
    Calls Try.prog 26 #[.slice A l.length c, .int .i64 next] w fun e w' => e = .returned (.string (enc l next)) ∧ Below w.heap.size w w' :=
  umbelref22_Encode.calls 1002 A c l next (enc l next) w hr hc (renc_f l next (by omega) 1002 (by omega))
theorem rdecode_c (s : ByteArray) (hs : s.size ≤ 1000) (w : World) :
    Calls Try.prog 28 #[.string s] w fun e w' => ∃ v, e = .returned (.agg #[v, .int .i64 (dec s).2.1, .bool (dec s).2.2]) ∧ Kd.R (Kd.int .i64) 3 w' w.heap.size (fun _ => True) v (dec s).1 ∧ Below w.heap.size w w' :=
  umbelref22_Decode.calls 3001 s (dec s).1 (dec s).2.1 (dec s).2.2 w (rdec_f s hs 3001 (by omega))
theorem ints_c (A : Option Addr) (c : Nat) (l : List Int) (A1 : Option Addr) (c1 : Nat) (l1 : List Int) (w : World) (hr : Kd.C (Kd.int .i64) w A l.length l) (hc : l.length ≤ c) (hr1 : Kd.C (Kd.int .i64) w A1 l1.length l1) (hc1 : l1.length ≤ c1) (hl : l.length ≤ 1000) :
    Calls Try.prog 29 #[.slice A l.length c, .slice A1 l1.length c1] w fun e w' => e = .returned (.bool (decide (l = l1))) ∧ Drawn0 w w' :=
  umbelkeep_Ints.calls 1001 A c l A1 c1 l1 (decide (l = l1)) w hr hc hr1 hc1 ((ints_f l l1 hl 1001 (by omega)).trans (congrArg some (decide_eq_decide.2 Iff.rfl)))
theorem lists_c (A : Option Addr) (c : Nat) (l : List (List Int)) (A1 : Option Addr) (c1 : Nat) (l1 : List (List Int)) (w : World) (hr : Kd.C (Kd.slice 3 (Kd.int .i64)) w A l.length l) (hc : l.length ≤ c) (hr1 : Kd.C (Kd.slice 3 (Kd.int .i64)) w A1 l1.length l1) (hc1 : l1.length ≤ c1) (hl : l.length ≤ 1000) (hx : ∀ x ∈ l, x.length ≤ 1000) :
    Calls Try.prog 30 #[.slice A l.length c, .slice A1 l1.length c1] w fun e w' => e = .returned (.bool (decide (l = l1))) ∧ Drawn0 w w' :=
  umbelkeep_Lists.calls 2003 A c l A1 c1 l1 (decide (l = l1)) w hr hc hr1 hc1 ((lists_f l l1 hl hx 2003 (by omega)).trans (congrArg some (decide_eq_decide.2 Iff.rfl)))
theorem rsplit_c (A : Option Addr) (c : Nat) (l : List Int) (w : World) (hr : Kd.C (Kd.int .i64) w A l.length l) (hc : l.length ≤ c) (hl : l.length ≤ 500) :
    Calls Try.prog 32 #[.slice A l.length c] w fun e w' => ∃ v, e = .returned v ∧ Kd.S (Kd.slice 3 (Kd.int .i64)) 39 w' w.heap.size (fun _ => True) v (chunks l) ∧ Below w.heap.size w w' :=
  umbelref22_Split.calls 1001 A c l (chunks l) w hr hc (rsplit_f l (by omega) 1001 (by omega))
theorem c_lit (k : IntKind) (w : World) (l : List Int) (t : TypeId) (hl : l.length ≤ 9223372036854775807) : (Kd.int k).C (w.alloc (.cells (l.map (Value.int k)).toArray t)) (some { block := w.heap.size, off := 0 }) l.length l := by
  refine ⟨rfl, hl, fun _ => ⟨_, rfl, fun j p hj => ⟨[.int k p], rfl, rfl, fun i u hi => ?_⟩⟩⟩
  obtain ⟨rfl, rfl⟩ : i = 0 ∧ u = .int k p := by
    cases i with
    | zero => exact ⟨rfl, by simpa using hi.symm⟩
    | succ n => simp at hi
  rw [Addr.add_lit]
  exact cells_at w _ t _ _ (by rw [show j * (Kd.int k).sz = j from Nat.mul_one j]; simp [hj])
theorem may37 : May [3, 7] 150 := by
  refine ⟨fun i _ hi => ?_, by decide, .inr (by decide)⟩
  have : i = 0 ∨ i = 1 := by simp at hi; omega
  rcases this with rfl | rfl <;> simp [okAt]
theorem may73 : ¬ May [7, 3] 0 := fun h => by
  have := (h.1 1 (by decide) (by decide)).2 (by decide)
  revert this
  decide
theorem enc37 : enc [3, 7] 150 = ⟨#[0, 150, 2, 0, 3, 0, 7]⟩ := by
  unfold enc
  rw [if_pos may37]
  decide +kernel
theorem okAt_range {l : List Int} {i : Nat} (h : From l 0) (hi : i < l.length) : 2 ≤ l.getD i 0 ∧ l.getD i 0 < 200 := (h i (Nat.zero_le _) hi).1
theorem b2_len (l : List Int) : (l.flatMap b2).length = 2 * l.length := by
  induction l with
  | nil => rfl
  | cons x l ih => rw [List.flatMap_cons, List.length_append, ih]; simp [b2]; omega
theorem encL_len (l : List Int) (next : Int) : (encL l next).length = 3 + 2 * l.length := by
  unfold encL
  rw [List.length_append, b2_len, List.length_append]
  show 3 + _ = _
  rfl
theorem R_b2 (v : Int) : Str.R (b2 v) := by
  intro x hx
  simp [b2] at hx
  omega
theorem R_encL (l : List Int) (next : Int) : Str.R (encL l next) := by
  refine R_app (R_app (R_b2 _) ?_) ?_
  · intro x hx; simp at hx; omega
  · intro x hx
    obtain ⟨y, _, hy⟩ := List.mem_flatMap.1 hx
    exact R_b2 y x hy
theorem prs_bytes (l : List Int) (hl : ∀ x ∈ l, 0 ≤ x ∧ x < 65536) : ∀ (j : Nat) (s : ByteArray), (bytesOf s).drop j = l.flatMap b2 → prs s j l.length = l := by
  induction l with
  | nil => intro j s _; rfl
  | cons x l ih =>
    intro j s h
    have hx := hl x (List.mem_cons_self)
    have hsz : j + 1 < s.size := by
      have := congrArg List.length h
      rw [List.length_drop, len_bytesOf, b2_len] at this
      simp at this
      omega
    rw [List.flatMap_cons, drop_bytes s j (by omega), drop_bytes s (j + 1) (by omega)] at h
    simp only [b2, List.cons_append, List.nil_append, List.cons.injEq] at h
    obtain ⟨h1, h2, h3⟩ := h
    rw [List.length_cons, prs, ih (fun y hy => hl y (List.mem_cons_of_mem _ hy)) (j + 2) s h3]
    congr 1
    unfold num
    rw [h1, h2]
    omega
/-- What a list's bytes tell is it. -/
theorem dec_enc (l : List Int) (next : Int) (h : May l next) : dec (enc l next) = (l, next, true) := by
  have hl := h.2.1
  have hr : ∀ x ∈ l, 2 ≤ x ∧ x < 200 := by
    intro x hx
    obtain ⟨i, hi, rfl⟩ := List.getElem_of_mem hx
    have := okAt_range h.1 hi
    simpa [List.getD_eq_getElem?_getD, List.getElem?_eq_getElem hi] using this
  have hn : 0 ≤ next ∧ next < 200 := by
    rcases h.2.2 with q | q <;> omega
  have he : enc l next = strOfNums (encL l next) := if_pos h
  have hsz : (enc l next).size = 3 + 2 * l.length := by rw [he, str_size, encL_len]
  have hb : bytesOf (enc l next) = encL l next := by rw [he, bytes_str _ (R_encL l next)]
  have h2 : bt (enc l next) 2 = l.length := by
    rw [bt_rd, hb]
    simp only [encL, b2, rd]
    show (l.length : Int) % 256 = l.length
    omega
  have hn0 : num (enc l next) 0 = next := by
    unfold num
    rw [bt_rd, bt_rd, hb]
    simp only [encL, b2, rd]
    show next / 256 % 256 * 256 + next % 256 = next
    omega
  have hp : prs (enc l next) 3 l.length = l := prs_bytes l (fun x hx => by have := hr x hx; omega) 3 _ (by rw [hb]; simp [encL, b2])
  unfold dec
  rw [if_pos ⟨by omega, by rw [h2]; omega⟩, hsz, show (3 + 2 * l.length - 3) / 2 = l.length by omega, hp, hn0, got, if_pos h]
end Go.Proofs.Ytbgojedhciimaaa.LisC
