/-
  The walk of umbellaw22.ListRefused.
-/
import Derived.Test.YtbgojedhciimaaaLisB
namespace Go.Proofs.Ytbgojedhciimaaa.LisR
open Go.RowKit Go.Proofs.YtbgojedhciimaaaW.PrintWords Go.Proofs.YtbgojedhciimaaaW.PrintMore Go.Proofs.Ytbgojedhciimaaa.Cm Go.Proofs.Ytbgojedhciimaaa.Str Go.Proofs.Ytbgojedhciimaaa.LisH Go.Proofs.Ytbgojedhciimaaa.LisE Go.Proofs.Ytbgojedhciimaaa.LisS Go.Proofs.Ytbgojedhciimaaa.LisP Go.Proofs.Ytbgojedhciimaaa.LisC Go.Proofs.Ytbgojedhciimaaa.LisW Go.Proofs.Ytbgojedhciimaaa.LisT Go.Proofs.Ytbgojedhciimaaa.PLis
set_option linter.unusedVariables false
open Classical
/-- What the law wants, i rounds on. -/
noncomputable def wB (l : List Int) (next : Int) : Nat → Bool
  | 0 => decide (l.length ≤ 20 ∧ Nx next)
  | i + 1 => wB l next i && (decide (2 ≤ l.getD i 0) && decide (l.getD i 0 < 200) && (decide (i = 0) || decide (l.getD (i - 1) 0 < l.getD i 0)))
theorem wB_step (l : List Int) (next : Int) (i : Nat) : wB l next (i + 1) = (wB l next i && (decide (2 ≤ l.getD i 0) && decide (l.getD i 0 < 200) && (decide (i = 0) || decide (l.getD (i - 1) 0 < l.getD i 0)))) := rfl
theorem wB_iff (l : List Int) (next : Int) : ∀ i, i ≤ l.length → (wB l next i = true ↔ (∀ j, j < i → okAt l j) ∧ l.length ≤ 20 ∧ Nx next) := by
  intro i
  induction i with
  | zero => intro _; simp [wB]
  | succ i ih =>
    intro h
    rw [wB_step, Bool.and_eq_true, ih (by omega)]
    constructor
    · rintro ⟨⟨a, b, c⟩, d⟩
      simp only [Bool.and_eq_true, Bool.or_eq_true, decide_eq_true_eq] at d
      refine ⟨fun j hj => ?_, b, c⟩
      rcases Nat.lt_or_ge j i with q | q
      · exact a j q
      · rw [show j = i by omega]
        exact ⟨d.1, fun hp => d.2.resolve_left (by omega)⟩
    · rintro ⟨a, b, c⟩
      refine ⟨⟨fun j hj => a j (by omega), b, c⟩, ?_⟩
      have := a i (by omega)
      simp only [Bool.and_eq_true, Bool.or_eq_true, decide_eq_true_eq]
      refine ⟨this.1, ?_⟩
      by_cases q : i = 0
      · exact .inl q
      · exact .inr (this.2 (by omega))
theorem wB_all (l : List Int) (next : Int) : wB l next l.length = decide (May l next) := by
  rw [Bool.eq_iff_iff, wB_iff l next l.length (Nat.le_refl _), decide_eq_true_eq]
  exact ⟨fun ⟨a, b, c⟩ => ⟨fun i _ hi => a i hi, b, c⟩, fun ⟨a, b, c⟩ => ⟨fun i hi => a i (Nat.zero_le _) hi, b, c⟩⟩
theorem swap_not (l : List Int) (next : Int) (k : Nat) (m : May l next) (hk : k + 1 < l.length) : ¬ May ((l.set k (l[k + 1]?.getD 0)).set (k + 1) (l[k]?.getD 0)) next := by
  intro h
  have h1 := (m.1 (k + 1) (Nat.zero_le _) hk).2 (by omega)
  have h2 := (h.1 (k + 1) (Nat.zero_le _) (by simpa using hk)).2 (by omega)
  simp [List.getD_eq_getElem?_getD, List.getElem?_set, hk, show k < l.length by omega] at h1 h2
  omega
theorem encs (l : List Int) (next : Int) (m : May l next) : ((enc l next).size : Int) = 3 + 2 * (l.length : Int) := by
  unfold enc
  rw [if_pos m, str_size, encL_len]
  omega
set_option maxRecDepth 100000 in
set_option maxHeartbeats 8000000 in
theorem refused (A : Option Addr) (c : Nat) (l : List Int) (next : Int) (q : Int) (w : World) (hr : Kd.C (Kd.int .i64) w A l.length l) (hc : l.length ≤ c) (h63 : l.length ≤ 9223372036854775807) (hq : 0 ≤ q ∧ q < 256) :
    Calls Try.prog 10 #[.slice A l.length c, .int .i64 next, .int .u8 q] w fun e w' => e = .returned (.bool true) ∧ Below w.heap.size w w' := by
  have HR := Lib.hid fun W (hb : Below w.heap.size w W) => Kd.C_below hr hb
  have W0 := Lib.hid wakes_c
  have hC0 := Cm.Calm.refl w
  by_cases q1 : l.length ≤ 100
  · have HAD := Lib.hid fun (hp : 0 < l.length) => show ∃ ad, A = some ad ∧ ∀ W, Below w.heap.size w W → ∀ i, i < l.length → W.cell? (ad.add i) = some (.int .i64 (l.getD i 0)) from by
      obtain ⟨ad, e, _⟩ := hr.2.2 hp
      refine ⟨ad, e, fun W hb i hi => ?_⟩
      obtain ⟨ad', e', hx⟩ := Kd.at_int (Kd.C_below hr hb) (i : Int) (by omega) (by omega)
      rw [e] at e'
      cases e'
      rw [Int.toNat_natCast, rd_nat] at hx
      exact hx
    have E := Lib.hid fun (W : World) (hb : Below w.heap.size w W) => encode_c A c l next W (HR.out W hb) hc (by omega)
    clear hr
    obtain ⟨n, hn⟩ : ∃ n, n = l.length := ⟨_, rfl⟩
    have Hn := Lib.hid hn
    rw [← hn] at hc h63 q1 ⊢
    simp only [← hn] at HAD E
    have t1 : decide ((100 : Int) < (n : Int)) = false := decide_eq_false (by omega)
    go_enter Try.func10, Try.ntmps10
    by_cases n1 : n ≤ 20
    · have r1 : decide ((n : Int) ≤ 20) = true := decide_eq_true (by omega)
      by_cases n2 : next = 0
      · have hw0 : true = wB l next 0 := (decide_eq_true ⟨by omega, .inl n2⟩).symm
        have r2 : (next == 0) = true := beq_iff_eq.2 n2
        clear n2
        have HW0 := Lib.hid hw0
        clear hw0 hn
        go_wp2_with fail
        go_loopw [7, 8] (fun v7 v8 w' => ∃ (i : Nat) (b : Bool), i ≤ n ∧ v8 = .int .i64 (i : Int) ∧ v7 = .bool b ∧ Aside0 (b = wB l next i) ∧ Aside0 (Below w.heap.size w w')) (fun _ v8 _ => (n - intOf v8).toNat)
        case atStart => exact ⟨0, true, by omega, rfl, rfl, ⟨HW0.out⟩, ⟨Below.refl _ _⟩⟩
        case round =>
          obtain ⟨i, b, hi, rfl, rfl, hb0, HB⟩ := hrel
          by_cases hlt : i < n
          · have p1 : decide ((i : Int) < (n : Int)) = true := decide_eq_true (by omega)
            obtain ⟨ad, rfl, hlall⟩ := HAD.out (by omega)
            obtain ⟨x, hxe⟩ : ∃ x, x = l.getD i 0 := ⟨_, rfl⟩
            obtain ⟨y, hye⟩ : ∃ y, y = l.getD (i - 1) 0 := ⟨_, rfl⟩
            have hl : ∀ w', Cm.Calm wr w' → w'.cell? (ad.add i) = some (.int .i64 x) := fun w' hw => by rw [hxe]; exact hlall w' (HB.out.trans (hw.below.mono HB.out.size)) i (by omega)
            have hl2 : ∀ w', Cm.Calm wr w' → w'.cell? (ad.add (i - 1)) = some (.int .i64 y) := fun w' hw => by rw [hye]; exact hlall w' (HB.out.trans (hw.below.mono HB.out.size)) (i - 1) (by omega)
            have HL := Lib.hid hl
            have HL2 := Lib.hid hl2
            clear hl hl2
            have hs := wB_step l next i
            rw [← hxe, ← hye] at hs
            have Hs := Lib.hid hs
            clear hs hxe hye hlall
            cases b with
            | false =>
              go_wp2_with fail
              refine wp_region_calm_lit wr (by kernel_rfl) (by kernel_rfl) (Cm.Calm.refl _) ?_
              repeat (first | go_big_quiet_step (fail) | (refine wpQuiet_step (fun K hK => ?_); go_simp; first | (refine hK _ ?_; clear hK K) | (refine ⟨.int .i64 x, fun w' hw => by simp only [HL.out w' hw]; exact ⟨rfl, rfl⟩, hK _ ?_⟩; clear hK K) | (refine ⟨.int .i64 y, fun w' hw => by simp only [HL2.out w' hw]; exact ⟨rfl, rfl⟩, hK _ ?_⟩; clear hK K) | (refine ⟨.int .i64 x, fun w' hw => by simp only [HL0.out w' hw]; exact ⟨rfl, rfl⟩, hK _ ?_⟩; clear hK K) | (refine ⟨.int .i64 y, fun w' hw => by simp only [HL0.out w' hw]; exact ⟨rfl, rfl⟩, hK _ ?_⟩; clear hK K) | (refine ⟨_, fun _ _ => rfl, hK _ ?_⟩; clear hK K)))
              refine wpQuiet_nil ?_
              intro w5 hC5
              have hb5 : Below w.heap.size w w5 := HB.out.trans (hC5.below.mono HB.out.size)
              clear HL HL2 hC5
              go_wp2
              exact ⟨⟨i + 1, false, hlt, by simp, rfl, ⟨by rw [Hs.out, ← hb0.out]; rfl⟩, ⟨hb5⟩⟩, by simp [intOf]; omega⟩
            | true =>
              by_cases x1 : 2 ≤ x
              · have g1 : decide (2 ≤ x) = true := decide_eq_true x1
                by_cases x2 : x < 200
                · have g2 : decide (x < 200) = true := decide_eq_true x2
                  by_cases x3 : i = 0
                  · subst x3
                    have HL0 := Lib.hid fun (w' : World) (hw : Cm.Calm wr w') => show w'.cell? ad = some (.int .i64 x) from by rw [← HL.out w' hw]; cases ad; simp [Addr.add]
                    go_wp2_with fail
                    refine wp_region_calm_lit wr (by kernel_rfl) (by kernel_rfl) (Cm.Calm.refl _) ?_
                    repeat (first | go_big_quiet_step (fail) | (refine wpQuiet_step (fun K hK => ?_); go_simp; first | (refine hK _ ?_; clear hK K) | (refine ⟨.int .i64 x, fun w' hw => by simp only [HL.out w' hw]; exact ⟨rfl, rfl⟩, hK _ ?_⟩; clear hK K) | (refine ⟨.int .i64 y, fun w' hw => by simp only [HL2.out w' hw]; exact ⟨rfl, rfl⟩, hK _ ?_⟩; clear hK K) | (refine ⟨.int .i64 x, fun w' hw => by simp only [HL0.out w' hw]; exact ⟨rfl, rfl⟩, hK _ ?_⟩; clear hK K) | (refine ⟨.int .i64 y, fun w' hw => by simp only [HL0.out w' hw]; exact ⟨rfl, rfl⟩, hK _ ?_⟩; clear hK K) | (refine ⟨_, fun _ _ => rfl, hK _ ?_⟩; clear hK K)))
                    refine wpQuiet_nil ?_
                    intro w5 hC5
                    have hb5 : Below w.heap.size w w5 := HB.out.trans (hC5.below.mono HB.out.size)
                    clear HL HL2 hC5
                    go_wp2
                    exact ⟨⟨0 + 1, true, hlt, by simp, rfl, ⟨by rw [Hs.out, ← hb0.out, g1, g2]; rfl⟩, ⟨hb5⟩⟩, by simp [intOf]; omega⟩
                  · obtain ⟨j, hj⟩ : ∃ j, j = i - 1 := ⟨_, rfl⟩
                    have g3 : ((i : Int) == 0) = false := beq_eq_false_iff_ne.2 (by omega)
                    have g4 : (i : Int) - 1 = (j : Int) := by omega
                    have g6 : j < n := by omega
                    have g8 : IntKind.i64.wrap (j : Int) = (j : Int) := by rw [IntKind.wrap_i64]; omega
                    have g7 : decide (i = 0) = false := decide_eq_false x3
                    have HL0 := HL2
                    simp only [← hj] at HL2
                    clear hj
                    by_cases x4 : y < x
                    · have g5 : decide (y < x) = true := decide_eq_true x4
                      go_wp2_with fail
                      refine wp_region_calm_lit wr (by kernel_rfl) (by kernel_rfl) (Cm.Calm.refl _) ?_
                      repeat (first | go_big_quiet_step (fail) | (refine wpQuiet_step (fun K hK => ?_); go_simp; first | (refine hK _ ?_; clear hK K) | (refine ⟨.int .i64 x, fun w' hw => by simp only [HL.out w' hw]; exact ⟨rfl, rfl⟩, hK _ ?_⟩; clear hK K) | (refine ⟨.int .i64 y, fun w' hw => by simp only [HL2.out w' hw]; exact ⟨rfl, rfl⟩, hK _ ?_⟩; clear hK K) | (refine ⟨.int .i64 x, fun w' hw => by simp only [HL0.out w' hw]; exact ⟨rfl, rfl⟩, hK _ ?_⟩; clear hK K) | (refine ⟨.int .i64 y, fun w' hw => by simp only [HL0.out w' hw]; exact ⟨rfl, rfl⟩, hK _ ?_⟩; clear hK K) | (refine ⟨_, fun _ _ => rfl, hK _ ?_⟩; clear hK K)))
                      refine wpQuiet_nil ?_
                      intro w5 hC5
                      have hb5 : Below w.heap.size w w5 := HB.out.trans (hC5.below.mono HB.out.size)
                      clear HL HL2 hC5
                      go_wp2
                      exact ⟨⟨i + 1, true, hlt, by simp, rfl, ⟨by rw [Hs.out, ← hb0.out, g1, g2, g5, g7]; rfl⟩, ⟨hb5⟩⟩, by simp [intOf]; omega⟩
                    · have g5 : decide (y < x) = false := decide_eq_false x4
                      go_wp2_with fail
                      refine wp_region_calm_lit wr (by kernel_rfl) (by kernel_rfl) (Cm.Calm.refl _) ?_
                      repeat (first | go_big_quiet_step (fail) | (refine wpQuiet_step (fun K hK => ?_); go_simp; first | (refine hK _ ?_; clear hK K) | (refine ⟨.int .i64 x, fun w' hw => by simp only [HL.out w' hw]; exact ⟨rfl, rfl⟩, hK _ ?_⟩; clear hK K) | (refine ⟨.int .i64 y, fun w' hw => by simp only [HL2.out w' hw]; exact ⟨rfl, rfl⟩, hK _ ?_⟩; clear hK K) | (refine ⟨.int .i64 x, fun w' hw => by simp only [HL0.out w' hw]; exact ⟨rfl, rfl⟩, hK _ ?_⟩; clear hK K) | (refine ⟨.int .i64 y, fun w' hw => by simp only [HL0.out w' hw]; exact ⟨rfl, rfl⟩, hK _ ?_⟩; clear hK K) | (refine ⟨_, fun _ _ => rfl, hK _ ?_⟩; clear hK K)))
                      refine wpQuiet_nil ?_
                      intro w5 hC5
                      have hb5 : Below w.heap.size w w5 := HB.out.trans (hC5.below.mono HB.out.size)
                      clear HL HL2 hC5
                      go_wp2
                      exact ⟨⟨i + 1, false, hlt, by simp, rfl, ⟨by rw [Hs.out, ← hb0.out, g1, g2, g5, g7]; rfl⟩, ⟨hb5⟩⟩, by simp [intOf]; omega⟩
                · have g2 : decide (x < 200) = false := decide_eq_false x2
                  go_wp2_with fail
                  refine wp_region_calm_lit wr (by kernel_rfl) (by kernel_rfl) (Cm.Calm.refl _) ?_
                  repeat (first | go_big_quiet_step (fail) | (refine wpQuiet_step (fun K hK => ?_); go_simp; first | (refine hK _ ?_; clear hK K) | (refine ⟨.int .i64 x, fun w' hw => by simp only [HL.out w' hw]; exact ⟨rfl, rfl⟩, hK _ ?_⟩; clear hK K) | (refine ⟨.int .i64 y, fun w' hw => by simp only [HL2.out w' hw]; exact ⟨rfl, rfl⟩, hK _ ?_⟩; clear hK K) | (refine ⟨.int .i64 x, fun w' hw => by simp only [HL0.out w' hw]; exact ⟨rfl, rfl⟩, hK _ ?_⟩; clear hK K) | (refine ⟨.int .i64 y, fun w' hw => by simp only [HL0.out w' hw]; exact ⟨rfl, rfl⟩, hK _ ?_⟩; clear hK K) | (refine ⟨_, fun _ _ => rfl, hK _ ?_⟩; clear hK K)))
                  refine wpQuiet_nil ?_
                  intro w5 hC5
                  have hb5 : Below w.heap.size w w5 := HB.out.trans (hC5.below.mono HB.out.size)
                  clear HL HL2 hC5
                  go_wp2
                  exact ⟨⟨i + 1, false, hlt, by simp, rfl, ⟨by rw [Hs.out, ← hb0.out, g1, g2]; rfl⟩, ⟨hb5⟩⟩, by simp [intOf]; omega⟩
              · have g1 : decide (2 ≤ x) = false := decide_eq_false x1
                go_wp2_with fail
                refine wp_region_calm_lit wr (by kernel_rfl) (by kernel_rfl) (Cm.Calm.refl _) ?_
                repeat (first | go_big_quiet_step (fail) | (refine wpQuiet_step (fun K hK => ?_); go_simp; first | (refine hK _ ?_; clear hK K) | (refine ⟨.int .i64 x, fun w' hw => by simp only [HL.out w' hw]; exact ⟨rfl, rfl⟩, hK _ ?_⟩; clear hK K) | (refine ⟨.int .i64 y, fun w' hw => by simp only [HL2.out w' hw]; exact ⟨rfl, rfl⟩, hK _ ?_⟩; clear hK K) | (refine ⟨.int .i64 x, fun w' hw => by simp only [HL0.out w' hw]; exact ⟨rfl, rfl⟩, hK _ ?_⟩; clear hK K) | (refine ⟨.int .i64 y, fun w' hw => by simp only [HL0.out w' hw]; exact ⟨rfl, rfl⟩, hK _ ?_⟩; clear hK K) | (refine ⟨_, fun _ _ => rfl, hK _ ?_⟩; clear hK K)))
                refine wpQuiet_nil ?_
                intro w5 hC5
                have hb5 : Below w.heap.size w w5 := HB.out.trans (hC5.below.mono HB.out.size)
                clear HL HL2 hC5
                go_wp2
                exact ⟨⟨i + 1, false, hlt, by simp, rfl, ⟨by rw [Hs.out, ← hb0.out, g1]; rfl⟩, ⟨hb5⟩⟩, by simp [intOf]; omega⟩
          · have p1 : decide ((i : Int) < (n : Int)) = false := decide_eq_false (by omega)
            have hin : i = n := by omega
            have hbm : b = decide (May l next) := by rw [hb0.out, hin, Hn.out]; exact wB_all l next
            have HBr := HB.out
            clear HB hb0 hin hi
            have E1 := Lib.hid (E.out wr HBr)
            by_cases m : May l next
            · have hsz0 := encs l next m
              rw [decide_eq_true m] at hbm
              simp only [decide_eq_true m] at E1
              subst hbm
              obtain ⟨en, hen⟩ : ∃ en, en = enc l next := ⟨_, rfl⟩
              rw [← Hn.out] at hsz0
              simp only [← hen] at E1 hsz0
              clear hen
              go_wp2_with fail
              refine E1.out.mono ?_
              rintro e w2 ⟨rfl, hB2⟩
              have hb2 : Below w.heap.size w w2 := HBr.trans (hB2.mono HBr.size)
              clear E1 hB2 HBr
              by_cases l2 : n < 2
              · have d2 : decide ((n : Int) < 2) = true := decide_eq_true (by omega)
                go_wp2_with fail
                refine (W0.out _).mono ?_
                rintro e w3 ⟨rfl, hB3⟩
                have hb3 : Below w.heap.size w w3 := hb2.trans (hB3.mono hb2.size)
                go_wp2
                go_ret
                exact ⟨rfl, hb3⟩
              · have d2 : decide ((n : Int) < 2) = false := decide_eq_false (by omega)
                obtain ⟨k, hk⟩ : ∃ k : Nat, q % ((n : Int) - 1) = (k : Int) := ⟨(q % ((n : Int) - 1)).toNat, by rw [Int.toNat_of_nonneg (Int.emod_nonneg _ (by omega))]⟩
                have hkn : k + 1 < n := by have := Int.emod_lt_of_pos q (show (0 : Int) < (n : Int) - 1 by omega); omega
                go_wp2_with (first | ((with_reducible refine gate_dst (N := 114) rfl ?_); refine Kd.R_lit (Kd.int .i64) _ 3 ?hg (N := 114) ?hd (xs := ([] : List Int)) (inner := []) (ok := fun _ => True) (okp := fun _ => True) ?hr ?hp (fun _ hk => hk) trivial (Below.refl _ _) (Nat.le_refl _) (by simp) ?_; (case hd => rfl); (case hg => rfl); (case hr => first | (go_simp; done) | (go_simp; rfl)); (case hp => exact (Reps.none _ _)); intro v5 w9 ho5 hb5 hg_ hnew_; clear hg_ hnew_) | ((with_reducible refine gate_builtin (b := .append) (xs := #[.tmp 114, .tmp 115]) rfl ?_); at_builtin; refine Kd.R_append_row (Value.int .i64) (0 : Int) (h1 := fun _ => rfl) (w0 := w2) w2.heap.size rfl (.tmp 114) (.tmp 115) 39 3 (.int .i64 0) 8 rfl Try.underlying39 PLis.info3 rfl (by decide) v5 [] l _ _ _ (fun _ => True) rfl rfl (fun _ _ => trivial) ho5 (by rw [Hn.out]; exact HR.out _ (hb2.trans (hb5.mono hb2.size))) hb5 hb5.size (by simp; omega) ?_; intro v7 w7 ho7 hb7 hg7 hat7; clear hg7 hat7; rw [List.nil_append] at ho7))
                obtain ⟨g, cap, rfl, hgb, hgl, _⟩ := Kd.R_form ho7 (by rw [← Hn.out]; omega)
                have Ho7 := Lib.hid ho7
                clear ho5 hb5 ho7
                rw [← Hn.out] at Ho7 ⊢
                obtain ⟨a, ha⟩ : ∃ a, a = l.getD k 0 := ⟨_, rfl⟩
                obtain ⟨b, hb⟩ : ∃ b, b = l.getD (k + 1) 0 := ⟨_, rfl⟩
                have c1 := Kd.R_celln (0 : Int) Ho7.out (k : Int) (by omega) (by omega)
                have c2 := Kd.R_celln (0 : Int) Ho7.out ((k + 1 : Nat) : Int) (by omega) (by omega)
                rw [Int.toNat_natCast] at c1 c2
                have d1 : w7.cell? { block := g, off := k } = some (.int .i64 a) := by rw [c1.1, ha]; simp [rdOf]
                have d2' : w7.cell? { block := g, off := k + 1 } = some (.int .i64 b) := by rw [c2.1, hb]; simp [rdOf]
                have d3 := c1.2
                have d4 := c2.2
                clear c1 c2
                go_wp2
                go_region
                have R1 := Kd.R_drew (Kd.R_putn (Kd.R_putn Ho7.out (k : Int) (l[k + 1]?.getD 0)) ((k + 1 : Nat) : Int) (l[k]?.getD 0))
                rw [Int.toNat_natCast, Int.toNat_natCast] at R1
                obtain ⟨w8, hw8⟩ : ∃ w8, w8 = ((w7.setCell { block := g, off := k } (Value.int IntKind.i64 (l[k + 1]?.getD 0))).setCell { block := g, off := k + 1 } (Value.int IntKind.i64 (l[k]?.getD 0))).drew := ⟨_, rfl⟩
                have hb8 : Below w.heap.size w w8 := by
                  rw [hw8]
                  exact (((hb2.trans (hb7.mono hb2.size)).setCell (p := { block := g, off := k }) (Nat.le_trans hb2.size hgb) _).setCell (p := { block := g, off := k + 1 }) (Nat.le_trans hb2.size hgb) _).drew
                rw [← hw8] at R1 ⊢
                obtain ⟨hml, hcap, hCm⟩ := Kd.R_reads' R1
                have E9 := Lib.hid (encode_c (some { block := g, off := 0 }) cap _ next w8 hCm (by omega) (by omega))
                rw [← hml, decide_eq_false (swap_not l next k m (by rw [← Hn.out]; exact hkn))] at E9
                clear d1 d2' d3 d4 R1 hw8 Ho7 hCm hml ha hb
                go_wp2_with fail
                refine E9.out.mono ?_
                rintro e w3 ⟨rfl, hB3⟩
                have hb3 : Below w.heap.size w w3 := hb8.trans (hB3.mono hb8.size)
                clear E9 hB3 hb8
                go_wp2_with fail
                refine (W0.out _).mono ?_
                rintro e w4 ⟨rfl, hB4⟩
                have hb4 : Below w.heap.size w w4 := hb3.trans (hB4.mono hb3.size)
                go_wp2
                go_ret
                exact ⟨rfl, hb4⟩
            · have hse : enc l next = E0 := if_neg m
              rw [decide_eq_false m] at hbm
              simp only [decide_eq_false m, hse] at E1
              subst hbm
              go_wp2_with fail
              refine E1.out.mono ?_
              rintro e w2 ⟨rfl, hB2⟩
              have hb2 : Below w.heap.size w w2 := HBr.trans (hB2.mono HBr.size)
              clear E1 hB2 HBr
              go_wp2_with fail
              refine (W0.out _).mono ?_
              rintro e w3 ⟨rfl, hB3⟩
              have hb3 : Below w.heap.size w w3 := hb2.trans (hB3.mono hb2.size)
              go_wp2
              go_ret
              exact ⟨rfl, hb3⟩
      · have r2 : (next == 0) = false := beq_eq_false_iff_ne.2 n2
        by_cases n3 : 2 ≤ next
        · have r3 : decide (2 ≤ next) = true := decide_eq_true n3
          by_cases n4 : next < 200
          · have r4 : decide (next < 200) = true := decide_eq_true n4
            have hw0 : true = wB l next 0 := (decide_eq_true ⟨by omega, .inr ⟨n3, n4⟩⟩).symm
            have HW0 := Lib.hid hw0
            clear hw0 hn
            go_wp2_with fail
            go_loopw [7, 8] (fun v7 v8 w' => ∃ (i : Nat) (b : Bool), i ≤ n ∧ v8 = .int .i64 (i : Int) ∧ v7 = .bool b ∧ Aside0 (b = wB l next i) ∧ Aside0 (Below w.heap.size w w')) (fun _ v8 _ => (n - intOf v8).toNat)
            case atStart => exact ⟨0, true, by omega, rfl, rfl, ⟨HW0.out⟩, ⟨Below.refl _ _⟩⟩
            case round =>
              obtain ⟨i, b, hi, rfl, rfl, hb0, HB⟩ := hrel
              by_cases hlt : i < n
              · have p1 : decide ((i : Int) < (n : Int)) = true := decide_eq_true (by omega)
                obtain ⟨ad, rfl, hlall⟩ := HAD.out (by omega)
                obtain ⟨x, hxe⟩ : ∃ x, x = l.getD i 0 := ⟨_, rfl⟩
                obtain ⟨y, hye⟩ : ∃ y, y = l.getD (i - 1) 0 := ⟨_, rfl⟩
                have hl : ∀ w', Cm.Calm wr w' → w'.cell? (ad.add i) = some (.int .i64 x) := fun w' hw => by rw [hxe]; exact hlall w' (HB.out.trans (hw.below.mono HB.out.size)) i (by omega)
                have hl2 : ∀ w', Cm.Calm wr w' → w'.cell? (ad.add (i - 1)) = some (.int .i64 y) := fun w' hw => by rw [hye]; exact hlall w' (HB.out.trans (hw.below.mono HB.out.size)) (i - 1) (by omega)
                have HL := Lib.hid hl
                have HL2 := Lib.hid hl2
                clear hl hl2
                have hs := wB_step l next i
                rw [← hxe, ← hye] at hs
                have Hs := Lib.hid hs
                clear hs hxe hye hlall
                cases b with
                | false =>
                  go_wp2_with fail
                  refine wp_region_calm_lit wr (by kernel_rfl) (by kernel_rfl) (Cm.Calm.refl _) ?_
                  repeat (first | go_big_quiet_step (fail) | (refine wpQuiet_step (fun K hK => ?_); go_simp; first | (refine hK _ ?_; clear hK K) | (refine ⟨.int .i64 x, fun w' hw => by simp only [HL.out w' hw]; exact ⟨rfl, rfl⟩, hK _ ?_⟩; clear hK K) | (refine ⟨.int .i64 y, fun w' hw => by simp only [HL2.out w' hw]; exact ⟨rfl, rfl⟩, hK _ ?_⟩; clear hK K) | (refine ⟨.int .i64 x, fun w' hw => by simp only [HL0.out w' hw]; exact ⟨rfl, rfl⟩, hK _ ?_⟩; clear hK K) | (refine ⟨.int .i64 y, fun w' hw => by simp only [HL0.out w' hw]; exact ⟨rfl, rfl⟩, hK _ ?_⟩; clear hK K) | (refine ⟨_, fun _ _ => rfl, hK _ ?_⟩; clear hK K)))
                  refine wpQuiet_nil ?_
                  intro w5 hC5
                  have hb5 : Below w.heap.size w w5 := HB.out.trans (hC5.below.mono HB.out.size)
                  clear HL HL2 hC5
                  go_wp2
                  exact ⟨⟨i + 1, false, hlt, by simp, rfl, ⟨by rw [Hs.out, ← hb0.out]; rfl⟩, ⟨hb5⟩⟩, by simp [intOf]; omega⟩
                | true =>
                  by_cases x1 : 2 ≤ x
                  · have g1 : decide (2 ≤ x) = true := decide_eq_true x1
                    by_cases x2 : x < 200
                    · have g2 : decide (x < 200) = true := decide_eq_true x2
                      by_cases x3 : i = 0
                      · subst x3
                        have HL0 := Lib.hid fun (w' : World) (hw : Cm.Calm wr w') => show w'.cell? ad = some (.int .i64 x) from by rw [← HL.out w' hw]; cases ad; simp [Addr.add]
                        go_wp2_with fail
                        refine wp_region_calm_lit wr (by kernel_rfl) (by kernel_rfl) (Cm.Calm.refl _) ?_
                        repeat (first | go_big_quiet_step (fail) | (refine wpQuiet_step (fun K hK => ?_); go_simp; first | (refine hK _ ?_; clear hK K) | (refine ⟨.int .i64 x, fun w' hw => by simp only [HL.out w' hw]; exact ⟨rfl, rfl⟩, hK _ ?_⟩; clear hK K) | (refine ⟨.int .i64 y, fun w' hw => by simp only [HL2.out w' hw]; exact ⟨rfl, rfl⟩, hK _ ?_⟩; clear hK K) | (refine ⟨.int .i64 x, fun w' hw => by simp only [HL0.out w' hw]; exact ⟨rfl, rfl⟩, hK _ ?_⟩; clear hK K) | (refine ⟨.int .i64 y, fun w' hw => by simp only [HL0.out w' hw]; exact ⟨rfl, rfl⟩, hK _ ?_⟩; clear hK K) | (refine ⟨_, fun _ _ => rfl, hK _ ?_⟩; clear hK K)))
                        refine wpQuiet_nil ?_
                        intro w5 hC5
                        have hb5 : Below w.heap.size w w5 := HB.out.trans (hC5.below.mono HB.out.size)
                        clear HL HL2 hC5
                        go_wp2
                        exact ⟨⟨0 + 1, true, hlt, by simp, rfl, ⟨by rw [Hs.out, ← hb0.out, g1, g2]; rfl⟩, ⟨hb5⟩⟩, by simp [intOf]; omega⟩
                      · obtain ⟨j, hj⟩ : ∃ j, j = i - 1 := ⟨_, rfl⟩
                        have g3 : ((i : Int) == 0) = false := beq_eq_false_iff_ne.2 (by omega)
                        have g4 : (i : Int) - 1 = (j : Int) := by omega
                        have g6 : j < n := by omega
                        have g8 : IntKind.i64.wrap (j : Int) = (j : Int) := by rw [IntKind.wrap_i64]; omega
                        have g7 : decide (i = 0) = false := decide_eq_false x3
                        have HL0 := HL2
                        simp only [← hj] at HL2
                        clear hj
                        by_cases x4 : y < x
                        · have g5 : decide (y < x) = true := decide_eq_true x4
                          go_wp2_with fail
                          refine wp_region_calm_lit wr (by kernel_rfl) (by kernel_rfl) (Cm.Calm.refl _) ?_
                          repeat (first | go_big_quiet_step (fail) | (refine wpQuiet_step (fun K hK => ?_); go_simp; first | (refine hK _ ?_; clear hK K) | (refine ⟨.int .i64 x, fun w' hw => by simp only [HL.out w' hw]; exact ⟨rfl, rfl⟩, hK _ ?_⟩; clear hK K) | (refine ⟨.int .i64 y, fun w' hw => by simp only [HL2.out w' hw]; exact ⟨rfl, rfl⟩, hK _ ?_⟩; clear hK K) | (refine ⟨.int .i64 x, fun w' hw => by simp only [HL0.out w' hw]; exact ⟨rfl, rfl⟩, hK _ ?_⟩; clear hK K) | (refine ⟨.int .i64 y, fun w' hw => by simp only [HL0.out w' hw]; exact ⟨rfl, rfl⟩, hK _ ?_⟩; clear hK K) | (refine ⟨_, fun _ _ => rfl, hK _ ?_⟩; clear hK K)))
                          refine wpQuiet_nil ?_
                          intro w5 hC5
                          have hb5 : Below w.heap.size w w5 := HB.out.trans (hC5.below.mono HB.out.size)
                          clear HL HL2 hC5
                          go_wp2
                          exact ⟨⟨i + 1, true, hlt, by simp, rfl, ⟨by rw [Hs.out, ← hb0.out, g1, g2, g5, g7]; rfl⟩, ⟨hb5⟩⟩, by simp [intOf]; omega⟩
                        · have g5 : decide (y < x) = false := decide_eq_false x4
                          go_wp2_with fail
                          refine wp_region_calm_lit wr (by kernel_rfl) (by kernel_rfl) (Cm.Calm.refl _) ?_
                          repeat (first | go_big_quiet_step (fail) | (refine wpQuiet_step (fun K hK => ?_); go_simp; first | (refine hK _ ?_; clear hK K) | (refine ⟨.int .i64 x, fun w' hw => by simp only [HL.out w' hw]; exact ⟨rfl, rfl⟩, hK _ ?_⟩; clear hK K) | (refine ⟨.int .i64 y, fun w' hw => by simp only [HL2.out w' hw]; exact ⟨rfl, rfl⟩, hK _ ?_⟩; clear hK K) | (refine ⟨.int .i64 x, fun w' hw => by simp only [HL0.out w' hw]; exact ⟨rfl, rfl⟩, hK _ ?_⟩; clear hK K) | (refine ⟨.int .i64 y, fun w' hw => by simp only [HL0.out w' hw]; exact ⟨rfl, rfl⟩, hK _ ?_⟩; clear hK K) | (refine ⟨_, fun _ _ => rfl, hK _ ?_⟩; clear hK K)))
                          refine wpQuiet_nil ?_
                          intro w5 hC5
                          have hb5 : Below w.heap.size w w5 := HB.out.trans (hC5.below.mono HB.out.size)
                          clear HL HL2 hC5
                          go_wp2
                          exact ⟨⟨i + 1, false, hlt, by simp, rfl, ⟨by rw [Hs.out, ← hb0.out, g1, g2, g5, g7]; rfl⟩, ⟨hb5⟩⟩, by simp [intOf]; omega⟩
                    · have g2 : decide (x < 200) = false := decide_eq_false x2
                      go_wp2_with fail
                      refine wp_region_calm_lit wr (by kernel_rfl) (by kernel_rfl) (Cm.Calm.refl _) ?_
                      repeat (first | go_big_quiet_step (fail) | (refine wpQuiet_step (fun K hK => ?_); go_simp; first | (refine hK _ ?_; clear hK K) | (refine ⟨.int .i64 x, fun w' hw => by simp only [HL.out w' hw]; exact ⟨rfl, rfl⟩, hK _ ?_⟩; clear hK K) | (refine ⟨.int .i64 y, fun w' hw => by simp only [HL2.out w' hw]; exact ⟨rfl, rfl⟩, hK _ ?_⟩; clear hK K) | (refine ⟨.int .i64 x, fun w' hw => by simp only [HL0.out w' hw]; exact ⟨rfl, rfl⟩, hK _ ?_⟩; clear hK K) | (refine ⟨.int .i64 y, fun w' hw => by simp only [HL0.out w' hw]; exact ⟨rfl, rfl⟩, hK _ ?_⟩; clear hK K) | (refine ⟨_, fun _ _ => rfl, hK _ ?_⟩; clear hK K)))
                      refine wpQuiet_nil ?_
                      intro w5 hC5
                      have hb5 : Below w.heap.size w w5 := HB.out.trans (hC5.below.mono HB.out.size)
                      clear HL HL2 hC5
                      go_wp2
                      exact ⟨⟨i + 1, false, hlt, by simp, rfl, ⟨by rw [Hs.out, ← hb0.out, g1, g2]; rfl⟩, ⟨hb5⟩⟩, by simp [intOf]; omega⟩
                  · have g1 : decide (2 ≤ x) = false := decide_eq_false x1
                    go_wp2_with fail
                    refine wp_region_calm_lit wr (by kernel_rfl) (by kernel_rfl) (Cm.Calm.refl _) ?_
                    repeat (first | go_big_quiet_step (fail) | (refine wpQuiet_step (fun K hK => ?_); go_simp; first | (refine hK _ ?_; clear hK K) | (refine ⟨.int .i64 x, fun w' hw => by simp only [HL.out w' hw]; exact ⟨rfl, rfl⟩, hK _ ?_⟩; clear hK K) | (refine ⟨.int .i64 y, fun w' hw => by simp only [HL2.out w' hw]; exact ⟨rfl, rfl⟩, hK _ ?_⟩; clear hK K) | (refine ⟨.int .i64 x, fun w' hw => by simp only [HL0.out w' hw]; exact ⟨rfl, rfl⟩, hK _ ?_⟩; clear hK K) | (refine ⟨.int .i64 y, fun w' hw => by simp only [HL0.out w' hw]; exact ⟨rfl, rfl⟩, hK _ ?_⟩; clear hK K) | (refine ⟨_, fun _ _ => rfl, hK _ ?_⟩; clear hK K)))
                    refine wpQuiet_nil ?_
                    intro w5 hC5
                    have hb5 : Below w.heap.size w w5 := HB.out.trans (hC5.below.mono HB.out.size)
                    clear HL HL2 hC5
                    go_wp2
                    exact ⟨⟨i + 1, false, hlt, by simp, rfl, ⟨by rw [Hs.out, ← hb0.out, g1]; rfl⟩, ⟨hb5⟩⟩, by simp [intOf]; omega⟩
              · have p1 : decide ((i : Int) < (n : Int)) = false := decide_eq_false (by omega)
                have hin : i = n := by omega
                have hbm : b = decide (May l next) := by rw [hb0.out, hin, Hn.out]; exact wB_all l next
                have HBr := HB.out
                clear HB hb0 hin hi
                have E1 := Lib.hid (E.out wr HBr)
                by_cases m : May l next
                · have hsz0 := encs l next m
                  rw [decide_eq_true m] at hbm
                  simp only [decide_eq_true m] at E1
                  subst hbm
                  obtain ⟨en, hen⟩ : ∃ en, en = enc l next := ⟨_, rfl⟩
                  rw [← Hn.out] at hsz0
                  simp only [← hen] at E1 hsz0
                  clear hen
                  go_wp2_with fail
                  refine E1.out.mono ?_
                  rintro e w2 ⟨rfl, hB2⟩
                  have hb2 : Below w.heap.size w w2 := HBr.trans (hB2.mono HBr.size)
                  clear E1 hB2 HBr
                  by_cases l2 : n < 2
                  · have d2 : decide ((n : Int) < 2) = true := decide_eq_true (by omega)
                    go_wp2_with fail
                    refine (W0.out _).mono ?_
                    rintro e w3 ⟨rfl, hB3⟩
                    have hb3 : Below w.heap.size w w3 := hb2.trans (hB3.mono hb2.size)
                    go_wp2
                    go_ret
                    exact ⟨rfl, hb3⟩
                  · have d2 : decide ((n : Int) < 2) = false := decide_eq_false (by omega)
                    obtain ⟨k, hk⟩ : ∃ k : Nat, q % ((n : Int) - 1) = (k : Int) := ⟨(q % ((n : Int) - 1)).toNat, by rw [Int.toNat_of_nonneg (Int.emod_nonneg _ (by omega))]⟩
                    have hkn : k + 1 < n := by have := Int.emod_lt_of_pos q (show (0 : Int) < (n : Int) - 1 by omega); omega
                    go_wp2_with (first | ((with_reducible refine gate_dst (N := 114) rfl ?_); refine Kd.R_lit (Kd.int .i64) _ 3 ?hg (N := 114) ?hd (xs := ([] : List Int)) (inner := []) (ok := fun _ => True) (okp := fun _ => True) ?hr ?hp (fun _ hk => hk) trivial (Below.refl _ _) (Nat.le_refl _) (by simp) ?_; (case hd => rfl); (case hg => rfl); (case hr => first | (go_simp; done) | (go_simp; rfl)); (case hp => exact (Reps.none _ _)); intro v5 w9 ho5 hb5 hg_ hnew_; clear hg_ hnew_) | ((with_reducible refine gate_builtin (b := .append) (xs := #[.tmp 114, .tmp 115]) rfl ?_); at_builtin; refine Kd.R_append_row (Value.int .i64) (0 : Int) (h1 := fun _ => rfl) (w0 := w2) w2.heap.size rfl (.tmp 114) (.tmp 115) 39 3 (.int .i64 0) 8 rfl Try.underlying39 PLis.info3 rfl (by decide) v5 [] l _ _ _ (fun _ => True) rfl rfl (fun _ _ => trivial) ho5 (by rw [Hn.out]; exact HR.out _ (hb2.trans (hb5.mono hb2.size))) hb5 hb5.size (by simp; omega) ?_; intro v7 w7 ho7 hb7 hg7 hat7; clear hg7 hat7; rw [List.nil_append] at ho7))
                    obtain ⟨g, cap, rfl, hgb, hgl, _⟩ := Kd.R_form ho7 (by rw [← Hn.out]; omega)
                    have Ho7 := Lib.hid ho7
                    clear ho5 hb5 ho7
                    rw [← Hn.out] at Ho7 ⊢
                    obtain ⟨a, ha⟩ : ∃ a, a = l.getD k 0 := ⟨_, rfl⟩
                    obtain ⟨b, hb⟩ : ∃ b, b = l.getD (k + 1) 0 := ⟨_, rfl⟩
                    have c1 := Kd.R_celln (0 : Int) Ho7.out (k : Int) (by omega) (by omega)
                    have c2 := Kd.R_celln (0 : Int) Ho7.out ((k + 1 : Nat) : Int) (by omega) (by omega)
                    rw [Int.toNat_natCast] at c1 c2
                    have d1 : w7.cell? { block := g, off := k } = some (.int .i64 a) := by rw [c1.1, ha]; simp [rdOf]
                    have d2' : w7.cell? { block := g, off := k + 1 } = some (.int .i64 b) := by rw [c2.1, hb]; simp [rdOf]
                    have d3 := c1.2
                    have d4 := c2.2
                    clear c1 c2
                    go_wp2
                    go_region
                    have R1 := Kd.R_drew (Kd.R_putn (Kd.R_putn Ho7.out (k : Int) (l[k + 1]?.getD 0)) ((k + 1 : Nat) : Int) (l[k]?.getD 0))
                    rw [Int.toNat_natCast, Int.toNat_natCast] at R1
                    obtain ⟨w8, hw8⟩ : ∃ w8, w8 = ((w7.setCell { block := g, off := k } (Value.int IntKind.i64 (l[k + 1]?.getD 0))).setCell { block := g, off := k + 1 } (Value.int IntKind.i64 (l[k]?.getD 0))).drew := ⟨_, rfl⟩
                    have hb8 : Below w.heap.size w w8 := by
                      rw [hw8]
                      exact (((hb2.trans (hb7.mono hb2.size)).setCell (p := { block := g, off := k }) (Nat.le_trans hb2.size hgb) _).setCell (p := { block := g, off := k + 1 }) (Nat.le_trans hb2.size hgb) _).drew
                    rw [← hw8] at R1 ⊢
                    obtain ⟨hml, hcap, hCm⟩ := Kd.R_reads' R1
                    have E9 := Lib.hid (encode_c (some { block := g, off := 0 }) cap _ next w8 hCm (by omega) (by omega))
                    rw [← hml, decide_eq_false (swap_not l next k m (by rw [← Hn.out]; exact hkn))] at E9
                    clear d1 d2' d3 d4 R1 hw8 Ho7 hCm hml ha hb
                    go_wp2_with fail
                    refine E9.out.mono ?_
                    rintro e w3 ⟨rfl, hB3⟩
                    have hb3 : Below w.heap.size w w3 := hb8.trans (hB3.mono hb8.size)
                    clear E9 hB3 hb8
                    go_wp2_with fail
                    refine (W0.out _).mono ?_
                    rintro e w4 ⟨rfl, hB4⟩
                    have hb4 : Below w.heap.size w w4 := hb3.trans (hB4.mono hb3.size)
                    go_wp2
                    go_ret
                    exact ⟨rfl, hb4⟩
                · have hse : enc l next = E0 := if_neg m
                  rw [decide_eq_false m] at hbm
                  simp only [decide_eq_false m, hse] at E1
                  subst hbm
                  go_wp2_with fail
                  refine E1.out.mono ?_
                  rintro e w2 ⟨rfl, hB2⟩
                  have hb2 : Below w.heap.size w w2 := HBr.trans (hB2.mono HBr.size)
                  clear E1 hB2 HBr
                  go_wp2_with fail
                  refine (W0.out _).mono ?_
                  rintro e w3 ⟨rfl, hB3⟩
                  have hb3 : Below w.heap.size w w3 := hb2.trans (hB3.mono hb2.size)
                  go_wp2
                  go_ret
                  exact ⟨rfl, hb3⟩
          · have r4 : decide (next < 200) = false := decide_eq_false n4
            have hw0 : false = wB l next 0 := (decide_eq_false (fun h => by rcases h.2 with e | e <;> omega)).symm
            have HW0 := Lib.hid hw0
            clear hw0 hn
            go_wp2_with fail
            go_loopw [7, 8] (fun v7 v8 w' => ∃ (i : Nat) (b : Bool), i ≤ n ∧ v8 = .int .i64 (i : Int) ∧ v7 = .bool b ∧ Aside0 (b = wB l next i) ∧ Aside0 (Below w.heap.size w w')) (fun _ v8 _ => (n - intOf v8).toNat)
            case atStart => exact ⟨0, false, by omega, rfl, rfl, ⟨HW0.out⟩, ⟨Below.refl _ _⟩⟩
            case round =>
              obtain ⟨i, b, hi, rfl, rfl, hb0, HB⟩ := hrel
              by_cases hlt : i < n
              · have p1 : decide ((i : Int) < (n : Int)) = true := decide_eq_true (by omega)
                obtain ⟨ad, rfl, hlall⟩ := HAD.out (by omega)
                obtain ⟨x, hxe⟩ : ∃ x, x = l.getD i 0 := ⟨_, rfl⟩
                obtain ⟨y, hye⟩ : ∃ y, y = l.getD (i - 1) 0 := ⟨_, rfl⟩
                have hl : ∀ w', Cm.Calm wr w' → w'.cell? (ad.add i) = some (.int .i64 x) := fun w' hw => by rw [hxe]; exact hlall w' (HB.out.trans (hw.below.mono HB.out.size)) i (by omega)
                have hl2 : ∀ w', Cm.Calm wr w' → w'.cell? (ad.add (i - 1)) = some (.int .i64 y) := fun w' hw => by rw [hye]; exact hlall w' (HB.out.trans (hw.below.mono HB.out.size)) (i - 1) (by omega)
                have HL := Lib.hid hl
                have HL2 := Lib.hid hl2
                clear hl hl2
                have hs := wB_step l next i
                rw [← hxe, ← hye] at hs
                have Hs := Lib.hid hs
                clear hs hxe hye hlall
                cases b with
                | false =>
                  go_wp2_with fail
                  refine wp_region_calm_lit wr (by kernel_rfl) (by kernel_rfl) (Cm.Calm.refl _) ?_
                  repeat (first | go_big_quiet_step (fail) | (refine wpQuiet_step (fun K hK => ?_); go_simp; first | (refine hK _ ?_; clear hK K) | (refine ⟨.int .i64 x, fun w' hw => by simp only [HL.out w' hw]; exact ⟨rfl, rfl⟩, hK _ ?_⟩; clear hK K) | (refine ⟨.int .i64 y, fun w' hw => by simp only [HL2.out w' hw]; exact ⟨rfl, rfl⟩, hK _ ?_⟩; clear hK K) | (refine ⟨.int .i64 x, fun w' hw => by simp only [HL0.out w' hw]; exact ⟨rfl, rfl⟩, hK _ ?_⟩; clear hK K) | (refine ⟨.int .i64 y, fun w' hw => by simp only [HL0.out w' hw]; exact ⟨rfl, rfl⟩, hK _ ?_⟩; clear hK K) | (refine ⟨_, fun _ _ => rfl, hK _ ?_⟩; clear hK K)))
                  refine wpQuiet_nil ?_
                  intro w5 hC5
                  have hb5 : Below w.heap.size w w5 := HB.out.trans (hC5.below.mono HB.out.size)
                  clear HL HL2 hC5
                  go_wp2
                  exact ⟨⟨i + 1, false, hlt, by simp, rfl, ⟨by rw [Hs.out, ← hb0.out]; rfl⟩, ⟨hb5⟩⟩, by simp [intOf]; omega⟩
                | true =>
                  by_cases x1 : 2 ≤ x
                  · have g1 : decide (2 ≤ x) = true := decide_eq_true x1
                    by_cases x2 : x < 200
                    · have g2 : decide (x < 200) = true := decide_eq_true x2
                      by_cases x3 : i = 0
                      · subst x3
                        have HL0 := Lib.hid fun (w' : World) (hw : Cm.Calm wr w') => show w'.cell? ad = some (.int .i64 x) from by rw [← HL.out w' hw]; cases ad; simp [Addr.add]
                        go_wp2_with fail
                        refine wp_region_calm_lit wr (by kernel_rfl) (by kernel_rfl) (Cm.Calm.refl _) ?_
                        repeat (first | go_big_quiet_step (fail) | (refine wpQuiet_step (fun K hK => ?_); go_simp; first | (refine hK _ ?_; clear hK K) | (refine ⟨.int .i64 x, fun w' hw => by simp only [HL.out w' hw]; exact ⟨rfl, rfl⟩, hK _ ?_⟩; clear hK K) | (refine ⟨.int .i64 y, fun w' hw => by simp only [HL2.out w' hw]; exact ⟨rfl, rfl⟩, hK _ ?_⟩; clear hK K) | (refine ⟨.int .i64 x, fun w' hw => by simp only [HL0.out w' hw]; exact ⟨rfl, rfl⟩, hK _ ?_⟩; clear hK K) | (refine ⟨.int .i64 y, fun w' hw => by simp only [HL0.out w' hw]; exact ⟨rfl, rfl⟩, hK _ ?_⟩; clear hK K) | (refine ⟨_, fun _ _ => rfl, hK _ ?_⟩; clear hK K)))
                        refine wpQuiet_nil ?_
                        intro w5 hC5
                        have hb5 : Below w.heap.size w w5 := HB.out.trans (hC5.below.mono HB.out.size)
                        clear HL HL2 hC5
                        go_wp2
                        exact ⟨⟨0 + 1, true, hlt, by simp, rfl, ⟨by rw [Hs.out, ← hb0.out, g1, g2]; rfl⟩, ⟨hb5⟩⟩, by simp [intOf]; omega⟩
                      · obtain ⟨j, hj⟩ : ∃ j, j = i - 1 := ⟨_, rfl⟩
                        have g3 : ((i : Int) == 0) = false := beq_eq_false_iff_ne.2 (by omega)
                        have g4 : (i : Int) - 1 = (j : Int) := by omega
                        have g6 : j < n := by omega
                        have g8 : IntKind.i64.wrap (j : Int) = (j : Int) := by rw [IntKind.wrap_i64]; omega
                        have g7 : decide (i = 0) = false := decide_eq_false x3
                        have HL0 := HL2
                        simp only [← hj] at HL2
                        clear hj
                        by_cases x4 : y < x
                        · have g5 : decide (y < x) = true := decide_eq_true x4
                          go_wp2_with fail
                          refine wp_region_calm_lit wr (by kernel_rfl) (by kernel_rfl) (Cm.Calm.refl _) ?_
                          repeat (first | go_big_quiet_step (fail) | (refine wpQuiet_step (fun K hK => ?_); go_simp; first | (refine hK _ ?_; clear hK K) | (refine ⟨.int .i64 x, fun w' hw => by simp only [HL.out w' hw]; exact ⟨rfl, rfl⟩, hK _ ?_⟩; clear hK K) | (refine ⟨.int .i64 y, fun w' hw => by simp only [HL2.out w' hw]; exact ⟨rfl, rfl⟩, hK _ ?_⟩; clear hK K) | (refine ⟨.int .i64 x, fun w' hw => by simp only [HL0.out w' hw]; exact ⟨rfl, rfl⟩, hK _ ?_⟩; clear hK K) | (refine ⟨.int .i64 y, fun w' hw => by simp only [HL0.out w' hw]; exact ⟨rfl, rfl⟩, hK _ ?_⟩; clear hK K) | (refine ⟨_, fun _ _ => rfl, hK _ ?_⟩; clear hK K)))
                          refine wpQuiet_nil ?_
                          intro w5 hC5
                          have hb5 : Below w.heap.size w w5 := HB.out.trans (hC5.below.mono HB.out.size)
                          clear HL HL2 hC5
                          go_wp2
                          exact ⟨⟨i + 1, true, hlt, by simp, rfl, ⟨by rw [Hs.out, ← hb0.out, g1, g2, g5, g7]; rfl⟩, ⟨hb5⟩⟩, by simp [intOf]; omega⟩
                        · have g5 : decide (y < x) = false := decide_eq_false x4
                          go_wp2_with fail
                          refine wp_region_calm_lit wr (by kernel_rfl) (by kernel_rfl) (Cm.Calm.refl _) ?_
                          repeat (first | go_big_quiet_step (fail) | (refine wpQuiet_step (fun K hK => ?_); go_simp; first | (refine hK _ ?_; clear hK K) | (refine ⟨.int .i64 x, fun w' hw => by simp only [HL.out w' hw]; exact ⟨rfl, rfl⟩, hK _ ?_⟩; clear hK K) | (refine ⟨.int .i64 y, fun w' hw => by simp only [HL2.out w' hw]; exact ⟨rfl, rfl⟩, hK _ ?_⟩; clear hK K) | (refine ⟨.int .i64 x, fun w' hw => by simp only [HL0.out w' hw]; exact ⟨rfl, rfl⟩, hK _ ?_⟩; clear hK K) | (refine ⟨.int .i64 y, fun w' hw => by simp only [HL0.out w' hw]; exact ⟨rfl, rfl⟩, hK _ ?_⟩; clear hK K) | (refine ⟨_, fun _ _ => rfl, hK _ ?_⟩; clear hK K)))
                          refine wpQuiet_nil ?_
                          intro w5 hC5
                          have hb5 : Below w.heap.size w w5 := HB.out.trans (hC5.below.mono HB.out.size)
                          clear HL HL2 hC5
                          go_wp2
                          exact ⟨⟨i + 1, false, hlt, by simp, rfl, ⟨by rw [Hs.out, ← hb0.out, g1, g2, g5, g7]; rfl⟩, ⟨hb5⟩⟩, by simp [intOf]; omega⟩
                    · have g2 : decide (x < 200) = false := decide_eq_false x2
                      go_wp2_with fail
                      refine wp_region_calm_lit wr (by kernel_rfl) (by kernel_rfl) (Cm.Calm.refl _) ?_
                      repeat (first | go_big_quiet_step (fail) | (refine wpQuiet_step (fun K hK => ?_); go_simp; first | (refine hK _ ?_; clear hK K) | (refine ⟨.int .i64 x, fun w' hw => by simp only [HL.out w' hw]; exact ⟨rfl, rfl⟩, hK _ ?_⟩; clear hK K) | (refine ⟨.int .i64 y, fun w' hw => by simp only [HL2.out w' hw]; exact ⟨rfl, rfl⟩, hK _ ?_⟩; clear hK K) | (refine ⟨.int .i64 x, fun w' hw => by simp only [HL0.out w' hw]; exact ⟨rfl, rfl⟩, hK _ ?_⟩; clear hK K) | (refine ⟨.int .i64 y, fun w' hw => by simp only [HL0.out w' hw]; exact ⟨rfl, rfl⟩, hK _ ?_⟩; clear hK K) | (refine ⟨_, fun _ _ => rfl, hK _ ?_⟩; clear hK K)))
                      refine wpQuiet_nil ?_
                      intro w5 hC5
                      have hb5 : Below w.heap.size w w5 := HB.out.trans (hC5.below.mono HB.out.size)
                      clear HL HL2 hC5
                      go_wp2
                      exact ⟨⟨i + 1, false, hlt, by simp, rfl, ⟨by rw [Hs.out, ← hb0.out, g1, g2]; rfl⟩, ⟨hb5⟩⟩, by simp [intOf]; omega⟩
                  · have g1 : decide (2 ≤ x) = false := decide_eq_false x1
                    go_wp2_with fail
                    refine wp_region_calm_lit wr (by kernel_rfl) (by kernel_rfl) (Cm.Calm.refl _) ?_
                    repeat (first | go_big_quiet_step (fail) | (refine wpQuiet_step (fun K hK => ?_); go_simp; first | (refine hK _ ?_; clear hK K) | (refine ⟨.int .i64 x, fun w' hw => by simp only [HL.out w' hw]; exact ⟨rfl, rfl⟩, hK _ ?_⟩; clear hK K) | (refine ⟨.int .i64 y, fun w' hw => by simp only [HL2.out w' hw]; exact ⟨rfl, rfl⟩, hK _ ?_⟩; clear hK K) | (refine ⟨.int .i64 x, fun w' hw => by simp only [HL0.out w' hw]; exact ⟨rfl, rfl⟩, hK _ ?_⟩; clear hK K) | (refine ⟨.int .i64 y, fun w' hw => by simp only [HL0.out w' hw]; exact ⟨rfl, rfl⟩, hK _ ?_⟩; clear hK K) | (refine ⟨_, fun _ _ => rfl, hK _ ?_⟩; clear hK K)))
                    refine wpQuiet_nil ?_
                    intro w5 hC5
                    have hb5 : Below w.heap.size w w5 := HB.out.trans (hC5.below.mono HB.out.size)
                    clear HL HL2 hC5
                    go_wp2
                    exact ⟨⟨i + 1, false, hlt, by simp, rfl, ⟨by rw [Hs.out, ← hb0.out, g1]; rfl⟩, ⟨hb5⟩⟩, by simp [intOf]; omega⟩
              · have p1 : decide ((i : Int) < (n : Int)) = false := decide_eq_false (by omega)
                have hin : i = n := by omega
                have hbm : b = decide (May l next) := by rw [hb0.out, hin, Hn.out]; exact wB_all l next
                have HBr := HB.out
                clear HB hb0 hin hi
                have E1 := Lib.hid (E.out wr HBr)
                by_cases m : May l next
                · have hsz0 := encs l next m
                  rw [decide_eq_true m] at hbm
                  simp only [decide_eq_true m] at E1
                  subst hbm
                  obtain ⟨en, hen⟩ : ∃ en, en = enc l next := ⟨_, rfl⟩
                  rw [← Hn.out] at hsz0
                  simp only [← hen] at E1 hsz0
                  clear hen
                  go_wp2_with fail
                  refine E1.out.mono ?_
                  rintro e w2 ⟨rfl, hB2⟩
                  have hb2 : Below w.heap.size w w2 := HBr.trans (hB2.mono HBr.size)
                  clear E1 hB2 HBr
                  by_cases l2 : n < 2
                  · have d2 : decide ((n : Int) < 2) = true := decide_eq_true (by omega)
                    go_wp2_with fail
                    refine (W0.out _).mono ?_
                    rintro e w3 ⟨rfl, hB3⟩
                    have hb3 : Below w.heap.size w w3 := hb2.trans (hB3.mono hb2.size)
                    go_wp2
                    go_ret
                    exact ⟨rfl, hb3⟩
                  · have d2 : decide ((n : Int) < 2) = false := decide_eq_false (by omega)
                    obtain ⟨k, hk⟩ : ∃ k : Nat, q % ((n : Int) - 1) = (k : Int) := ⟨(q % ((n : Int) - 1)).toNat, by rw [Int.toNat_of_nonneg (Int.emod_nonneg _ (by omega))]⟩
                    have hkn : k + 1 < n := by have := Int.emod_lt_of_pos q (show (0 : Int) < (n : Int) - 1 by omega); omega
                    go_wp2_with (first | ((with_reducible refine gate_dst (N := 114) rfl ?_); refine Kd.R_lit (Kd.int .i64) _ 3 ?hg (N := 114) ?hd (xs := ([] : List Int)) (inner := []) (ok := fun _ => True) (okp := fun _ => True) ?hr ?hp (fun _ hk => hk) trivial (Below.refl _ _) (Nat.le_refl _) (by simp) ?_; (case hd => rfl); (case hg => rfl); (case hr => first | (go_simp; done) | (go_simp; rfl)); (case hp => exact (Reps.none _ _)); intro v5 w9 ho5 hb5 hg_ hnew_; clear hg_ hnew_) | ((with_reducible refine gate_builtin (b := .append) (xs := #[.tmp 114, .tmp 115]) rfl ?_); at_builtin; refine Kd.R_append_row (Value.int .i64) (0 : Int) (h1 := fun _ => rfl) (w0 := w2) w2.heap.size rfl (.tmp 114) (.tmp 115) 39 3 (.int .i64 0) 8 rfl Try.underlying39 PLis.info3 rfl (by decide) v5 [] l _ _ _ (fun _ => True) rfl rfl (fun _ _ => trivial) ho5 (by rw [Hn.out]; exact HR.out _ (hb2.trans (hb5.mono hb2.size))) hb5 hb5.size (by simp; omega) ?_; intro v7 w7 ho7 hb7 hg7 hat7; clear hg7 hat7; rw [List.nil_append] at ho7))
                    obtain ⟨g, cap, rfl, hgb, hgl, _⟩ := Kd.R_form ho7 (by rw [← Hn.out]; omega)
                    have Ho7 := Lib.hid ho7
                    clear ho5 hb5 ho7
                    rw [← Hn.out] at Ho7 ⊢
                    obtain ⟨a, ha⟩ : ∃ a, a = l.getD k 0 := ⟨_, rfl⟩
                    obtain ⟨b, hb⟩ : ∃ b, b = l.getD (k + 1) 0 := ⟨_, rfl⟩
                    have c1 := Kd.R_celln (0 : Int) Ho7.out (k : Int) (by omega) (by omega)
                    have c2 := Kd.R_celln (0 : Int) Ho7.out ((k + 1 : Nat) : Int) (by omega) (by omega)
                    rw [Int.toNat_natCast] at c1 c2
                    have d1 : w7.cell? { block := g, off := k } = some (.int .i64 a) := by rw [c1.1, ha]; simp [rdOf]
                    have d2' : w7.cell? { block := g, off := k + 1 } = some (.int .i64 b) := by rw [c2.1, hb]; simp [rdOf]
                    have d3 := c1.2
                    have d4 := c2.2
                    clear c1 c2
                    go_wp2
                    go_region
                    have R1 := Kd.R_drew (Kd.R_putn (Kd.R_putn Ho7.out (k : Int) (l[k + 1]?.getD 0)) ((k + 1 : Nat) : Int) (l[k]?.getD 0))
                    rw [Int.toNat_natCast, Int.toNat_natCast] at R1
                    obtain ⟨w8, hw8⟩ : ∃ w8, w8 = ((w7.setCell { block := g, off := k } (Value.int IntKind.i64 (l[k + 1]?.getD 0))).setCell { block := g, off := k + 1 } (Value.int IntKind.i64 (l[k]?.getD 0))).drew := ⟨_, rfl⟩
                    have hb8 : Below w.heap.size w w8 := by
                      rw [hw8]
                      exact (((hb2.trans (hb7.mono hb2.size)).setCell (p := { block := g, off := k }) (Nat.le_trans hb2.size hgb) _).setCell (p := { block := g, off := k + 1 }) (Nat.le_trans hb2.size hgb) _).drew
                    rw [← hw8] at R1 ⊢
                    obtain ⟨hml, hcap, hCm⟩ := Kd.R_reads' R1
                    have E9 := Lib.hid (encode_c (some { block := g, off := 0 }) cap _ next w8 hCm (by omega) (by omega))
                    rw [← hml, decide_eq_false (swap_not l next k m (by rw [← Hn.out]; exact hkn))] at E9
                    clear d1 d2' d3 d4 R1 hw8 Ho7 hCm hml ha hb
                    go_wp2_with fail
                    refine E9.out.mono ?_
                    rintro e w3 ⟨rfl, hB3⟩
                    have hb3 : Below w.heap.size w w3 := hb8.trans (hB3.mono hb8.size)
                    clear E9 hB3 hb8
                    go_wp2_with fail
                    refine (W0.out _).mono ?_
                    rintro e w4 ⟨rfl, hB4⟩
                    have hb4 : Below w.heap.size w w4 := hb3.trans (hB4.mono hb3.size)
                    go_wp2
                    go_ret
                    exact ⟨rfl, hb4⟩
                · have hse : enc l next = E0 := if_neg m
                  rw [decide_eq_false m] at hbm
                  simp only [decide_eq_false m, hse] at E1
                  subst hbm
                  go_wp2_with fail
                  refine E1.out.mono ?_
                  rintro e w2 ⟨rfl, hB2⟩
                  have hb2 : Below w.heap.size w w2 := HBr.trans (hB2.mono HBr.size)
                  clear E1 hB2 HBr
                  go_wp2_with fail
                  refine (W0.out _).mono ?_
                  rintro e w3 ⟨rfl, hB3⟩
                  have hb3 : Below w.heap.size w w3 := hb2.trans (hB3.mono hb2.size)
                  go_wp2
                  go_ret
                  exact ⟨rfl, hb3⟩
        · have r3 : decide (2 ≤ next) = false := decide_eq_false n3
          have hw0 : false = wB l next 0 := (decide_eq_false (fun h => by rcases h.2 with e | e <;> omega)).symm
          have HW0 := Lib.hid hw0
          clear hw0 hn
          go_wp2_with fail
          go_loopw [7, 8] (fun v7 v8 w' => ∃ (i : Nat) (b : Bool), i ≤ n ∧ v8 = .int .i64 (i : Int) ∧ v7 = .bool b ∧ Aside0 (b = wB l next i) ∧ Aside0 (Below w.heap.size w w')) (fun _ v8 _ => (n - intOf v8).toNat)
          case atStart => exact ⟨0, false, by omega, rfl, rfl, ⟨HW0.out⟩, ⟨Below.refl _ _⟩⟩
          case round =>
            obtain ⟨i, b, hi, rfl, rfl, hb0, HB⟩ := hrel
            by_cases hlt : i < n
            · have p1 : decide ((i : Int) < (n : Int)) = true := decide_eq_true (by omega)
              obtain ⟨ad, rfl, hlall⟩ := HAD.out (by omega)
              obtain ⟨x, hxe⟩ : ∃ x, x = l.getD i 0 := ⟨_, rfl⟩
              obtain ⟨y, hye⟩ : ∃ y, y = l.getD (i - 1) 0 := ⟨_, rfl⟩
              have hl : ∀ w', Cm.Calm wr w' → w'.cell? (ad.add i) = some (.int .i64 x) := fun w' hw => by rw [hxe]; exact hlall w' (HB.out.trans (hw.below.mono HB.out.size)) i (by omega)
              have hl2 : ∀ w', Cm.Calm wr w' → w'.cell? (ad.add (i - 1)) = some (.int .i64 y) := fun w' hw => by rw [hye]; exact hlall w' (HB.out.trans (hw.below.mono HB.out.size)) (i - 1) (by omega)
              have HL := Lib.hid hl
              have HL2 := Lib.hid hl2
              clear hl hl2
              have hs := wB_step l next i
              rw [← hxe, ← hye] at hs
              have Hs := Lib.hid hs
              clear hs hxe hye hlall
              cases b with
              | false =>
                go_wp2_with fail
                refine wp_region_calm_lit wr (by kernel_rfl) (by kernel_rfl) (Cm.Calm.refl _) ?_
                repeat (first | go_big_quiet_step (fail) | (refine wpQuiet_step (fun K hK => ?_); go_simp; first | (refine hK _ ?_; clear hK K) | (refine ⟨.int .i64 x, fun w' hw => by simp only [HL.out w' hw]; exact ⟨rfl, rfl⟩, hK _ ?_⟩; clear hK K) | (refine ⟨.int .i64 y, fun w' hw => by simp only [HL2.out w' hw]; exact ⟨rfl, rfl⟩, hK _ ?_⟩; clear hK K) | (refine ⟨.int .i64 x, fun w' hw => by simp only [HL0.out w' hw]; exact ⟨rfl, rfl⟩, hK _ ?_⟩; clear hK K) | (refine ⟨.int .i64 y, fun w' hw => by simp only [HL0.out w' hw]; exact ⟨rfl, rfl⟩, hK _ ?_⟩; clear hK K) | (refine ⟨_, fun _ _ => rfl, hK _ ?_⟩; clear hK K)))
                refine wpQuiet_nil ?_
                intro w5 hC5
                have hb5 : Below w.heap.size w w5 := HB.out.trans (hC5.below.mono HB.out.size)
                clear HL HL2 hC5
                go_wp2
                exact ⟨⟨i + 1, false, hlt, by simp, rfl, ⟨by rw [Hs.out, ← hb0.out]; rfl⟩, ⟨hb5⟩⟩, by simp [intOf]; omega⟩
              | true =>
                by_cases x1 : 2 ≤ x
                · have g1 : decide (2 ≤ x) = true := decide_eq_true x1
                  by_cases x2 : x < 200
                  · have g2 : decide (x < 200) = true := decide_eq_true x2
                    by_cases x3 : i = 0
                    · subst x3
                      have HL0 := Lib.hid fun (w' : World) (hw : Cm.Calm wr w') => show w'.cell? ad = some (.int .i64 x) from by rw [← HL.out w' hw]; cases ad; simp [Addr.add]
                      go_wp2_with fail
                      refine wp_region_calm_lit wr (by kernel_rfl) (by kernel_rfl) (Cm.Calm.refl _) ?_
                      repeat (first | go_big_quiet_step (fail) | (refine wpQuiet_step (fun K hK => ?_); go_simp; first | (refine hK _ ?_; clear hK K) | (refine ⟨.int .i64 x, fun w' hw => by simp only [HL.out w' hw]; exact ⟨rfl, rfl⟩, hK _ ?_⟩; clear hK K) | (refine ⟨.int .i64 y, fun w' hw => by simp only [HL2.out w' hw]; exact ⟨rfl, rfl⟩, hK _ ?_⟩; clear hK K) | (refine ⟨.int .i64 x, fun w' hw => by simp only [HL0.out w' hw]; exact ⟨rfl, rfl⟩, hK _ ?_⟩; clear hK K) | (refine ⟨.int .i64 y, fun w' hw => by simp only [HL0.out w' hw]; exact ⟨rfl, rfl⟩, hK _ ?_⟩; clear hK K) | (refine ⟨_, fun _ _ => rfl, hK _ ?_⟩; clear hK K)))
                      refine wpQuiet_nil ?_
                      intro w5 hC5
                      have hb5 : Below w.heap.size w w5 := HB.out.trans (hC5.below.mono HB.out.size)
                      clear HL HL2 hC5
                      go_wp2
                      exact ⟨⟨0 + 1, true, hlt, by simp, rfl, ⟨by rw [Hs.out, ← hb0.out, g1, g2]; rfl⟩, ⟨hb5⟩⟩, by simp [intOf]; omega⟩
                    · obtain ⟨j, hj⟩ : ∃ j, j = i - 1 := ⟨_, rfl⟩
                      have g3 : ((i : Int) == 0) = false := beq_eq_false_iff_ne.2 (by omega)
                      have g4 : (i : Int) - 1 = (j : Int) := by omega
                      have g6 : j < n := by omega
                      have g8 : IntKind.i64.wrap (j : Int) = (j : Int) := by rw [IntKind.wrap_i64]; omega
                      have g7 : decide (i = 0) = false := decide_eq_false x3
                      have HL0 := HL2
                      simp only [← hj] at HL2
                      clear hj
                      by_cases x4 : y < x
                      · have g5 : decide (y < x) = true := decide_eq_true x4
                        go_wp2_with fail
                        refine wp_region_calm_lit wr (by kernel_rfl) (by kernel_rfl) (Cm.Calm.refl _) ?_
                        repeat (first | go_big_quiet_step (fail) | (refine wpQuiet_step (fun K hK => ?_); go_simp; first | (refine hK _ ?_; clear hK K) | (refine ⟨.int .i64 x, fun w' hw => by simp only [HL.out w' hw]; exact ⟨rfl, rfl⟩, hK _ ?_⟩; clear hK K) | (refine ⟨.int .i64 y, fun w' hw => by simp only [HL2.out w' hw]; exact ⟨rfl, rfl⟩, hK _ ?_⟩; clear hK K) | (refine ⟨.int .i64 x, fun w' hw => by simp only [HL0.out w' hw]; exact ⟨rfl, rfl⟩, hK _ ?_⟩; clear hK K) | (refine ⟨.int .i64 y, fun w' hw => by simp only [HL0.out w' hw]; exact ⟨rfl, rfl⟩, hK _ ?_⟩; clear hK K) | (refine ⟨_, fun _ _ => rfl, hK _ ?_⟩; clear hK K)))
                        refine wpQuiet_nil ?_
                        intro w5 hC5
                        have hb5 : Below w.heap.size w w5 := HB.out.trans (hC5.below.mono HB.out.size)
                        clear HL HL2 hC5
                        go_wp2
                        exact ⟨⟨i + 1, true, hlt, by simp, rfl, ⟨by rw [Hs.out, ← hb0.out, g1, g2, g5, g7]; rfl⟩, ⟨hb5⟩⟩, by simp [intOf]; omega⟩
                      · have g5 : decide (y < x) = false := decide_eq_false x4
                        go_wp2_with fail
                        refine wp_region_calm_lit wr (by kernel_rfl) (by kernel_rfl) (Cm.Calm.refl _) ?_
                        repeat (first | go_big_quiet_step (fail) | (refine wpQuiet_step (fun K hK => ?_); go_simp; first | (refine hK _ ?_; clear hK K) | (refine ⟨.int .i64 x, fun w' hw => by simp only [HL.out w' hw]; exact ⟨rfl, rfl⟩, hK _ ?_⟩; clear hK K) | (refine ⟨.int .i64 y, fun w' hw => by simp only [HL2.out w' hw]; exact ⟨rfl, rfl⟩, hK _ ?_⟩; clear hK K) | (refine ⟨.int .i64 x, fun w' hw => by simp only [HL0.out w' hw]; exact ⟨rfl, rfl⟩, hK _ ?_⟩; clear hK K) | (refine ⟨.int .i64 y, fun w' hw => by simp only [HL0.out w' hw]; exact ⟨rfl, rfl⟩, hK _ ?_⟩; clear hK K) | (refine ⟨_, fun _ _ => rfl, hK _ ?_⟩; clear hK K)))
                        refine wpQuiet_nil ?_
                        intro w5 hC5
                        have hb5 : Below w.heap.size w w5 := HB.out.trans (hC5.below.mono HB.out.size)
                        clear HL HL2 hC5
                        go_wp2
                        exact ⟨⟨i + 1, false, hlt, by simp, rfl, ⟨by rw [Hs.out, ← hb0.out, g1, g2, g5, g7]; rfl⟩, ⟨hb5⟩⟩, by simp [intOf]; omega⟩
                  · have g2 : decide (x < 200) = false := decide_eq_false x2
                    go_wp2_with fail
                    refine wp_region_calm_lit wr (by kernel_rfl) (by kernel_rfl) (Cm.Calm.refl _) ?_
                    repeat (first | go_big_quiet_step (fail) | (refine wpQuiet_step (fun K hK => ?_); go_simp; first | (refine hK _ ?_; clear hK K) | (refine ⟨.int .i64 x, fun w' hw => by simp only [HL.out w' hw]; exact ⟨rfl, rfl⟩, hK _ ?_⟩; clear hK K) | (refine ⟨.int .i64 y, fun w' hw => by simp only [HL2.out w' hw]; exact ⟨rfl, rfl⟩, hK _ ?_⟩; clear hK K) | (refine ⟨.int .i64 x, fun w' hw => by simp only [HL0.out w' hw]; exact ⟨rfl, rfl⟩, hK _ ?_⟩; clear hK K) | (refine ⟨.int .i64 y, fun w' hw => by simp only [HL0.out w' hw]; exact ⟨rfl, rfl⟩, hK _ ?_⟩; clear hK K) | (refine ⟨_, fun _ _ => rfl, hK _ ?_⟩; clear hK K)))
                    refine wpQuiet_nil ?_
                    intro w5 hC5
                    have hb5 : Below w.heap.size w w5 := HB.out.trans (hC5.below.mono HB.out.size)
                    clear HL HL2 hC5
                    go_wp2
                    exact ⟨⟨i + 1, false, hlt, by simp, rfl, ⟨by rw [Hs.out, ← hb0.out, g1, g2]; rfl⟩, ⟨hb5⟩⟩, by simp [intOf]; omega⟩
                · have g1 : decide (2 ≤ x) = false := decide_eq_false x1
                  go_wp2_with fail
                  refine wp_region_calm_lit wr (by kernel_rfl) (by kernel_rfl) (Cm.Calm.refl _) ?_
                  repeat (first | go_big_quiet_step (fail) | (refine wpQuiet_step (fun K hK => ?_); go_simp; first | (refine hK _ ?_; clear hK K) | (refine ⟨.int .i64 x, fun w' hw => by simp only [HL.out w' hw]; exact ⟨rfl, rfl⟩, hK _ ?_⟩; clear hK K) | (refine ⟨.int .i64 y, fun w' hw => by simp only [HL2.out w' hw]; exact ⟨rfl, rfl⟩, hK _ ?_⟩; clear hK K) | (refine ⟨.int .i64 x, fun w' hw => by simp only [HL0.out w' hw]; exact ⟨rfl, rfl⟩, hK _ ?_⟩; clear hK K) | (refine ⟨.int .i64 y, fun w' hw => by simp only [HL0.out w' hw]; exact ⟨rfl, rfl⟩, hK _ ?_⟩; clear hK K) | (refine ⟨_, fun _ _ => rfl, hK _ ?_⟩; clear hK K)))
                  refine wpQuiet_nil ?_
                  intro w5 hC5
                  have hb5 : Below w.heap.size w w5 := HB.out.trans (hC5.below.mono HB.out.size)
                  clear HL HL2 hC5
                  go_wp2
                  exact ⟨⟨i + 1, false, hlt, by simp, rfl, ⟨by rw [Hs.out, ← hb0.out, g1]; rfl⟩, ⟨hb5⟩⟩, by simp [intOf]; omega⟩
            · have p1 : decide ((i : Int) < (n : Int)) = false := decide_eq_false (by omega)
              have hin : i = n := by omega
              have hbm : b = decide (May l next) := by rw [hb0.out, hin, Hn.out]; exact wB_all l next
              have HBr := HB.out
              clear HB hb0 hin hi
              have E1 := Lib.hid (E.out wr HBr)
              by_cases m : May l next
              · have hsz0 := encs l next m
                rw [decide_eq_true m] at hbm
                simp only [decide_eq_true m] at E1
                subst hbm
                obtain ⟨en, hen⟩ : ∃ en, en = enc l next := ⟨_, rfl⟩
                rw [← Hn.out] at hsz0
                simp only [← hen] at E1 hsz0
                clear hen
                go_wp2_with fail
                refine E1.out.mono ?_
                rintro e w2 ⟨rfl, hB2⟩
                have hb2 : Below w.heap.size w w2 := HBr.trans (hB2.mono HBr.size)
                clear E1 hB2 HBr
                by_cases l2 : n < 2
                · have d2 : decide ((n : Int) < 2) = true := decide_eq_true (by omega)
                  go_wp2_with fail
                  refine (W0.out _).mono ?_
                  rintro e w3 ⟨rfl, hB3⟩
                  have hb3 : Below w.heap.size w w3 := hb2.trans (hB3.mono hb2.size)
                  go_wp2
                  go_ret
                  exact ⟨rfl, hb3⟩
                · have d2 : decide ((n : Int) < 2) = false := decide_eq_false (by omega)
                  obtain ⟨k, hk⟩ : ∃ k : Nat, q % ((n : Int) - 1) = (k : Int) := ⟨(q % ((n : Int) - 1)).toNat, by rw [Int.toNat_of_nonneg (Int.emod_nonneg _ (by omega))]⟩
                  have hkn : k + 1 < n := by have := Int.emod_lt_of_pos q (show (0 : Int) < (n : Int) - 1 by omega); omega
                  go_wp2_with (first | ((with_reducible refine gate_dst (N := 114) rfl ?_); refine Kd.R_lit (Kd.int .i64) _ 3 ?hg (N := 114) ?hd (xs := ([] : List Int)) (inner := []) (ok := fun _ => True) (okp := fun _ => True) ?hr ?hp (fun _ hk => hk) trivial (Below.refl _ _) (Nat.le_refl _) (by simp) ?_; (case hd => rfl); (case hg => rfl); (case hr => first | (go_simp; done) | (go_simp; rfl)); (case hp => exact (Reps.none _ _)); intro v5 w9 ho5 hb5 hg_ hnew_; clear hg_ hnew_) | ((with_reducible refine gate_builtin (b := .append) (xs := #[.tmp 114, .tmp 115]) rfl ?_); at_builtin; refine Kd.R_append_row (Value.int .i64) (0 : Int) (h1 := fun _ => rfl) (w0 := w2) w2.heap.size rfl (.tmp 114) (.tmp 115) 39 3 (.int .i64 0) 8 rfl Try.underlying39 PLis.info3 rfl (by decide) v5 [] l _ _ _ (fun _ => True) rfl rfl (fun _ _ => trivial) ho5 (by rw [Hn.out]; exact HR.out _ (hb2.trans (hb5.mono hb2.size))) hb5 hb5.size (by simp; omega) ?_; intro v7 w7 ho7 hb7 hg7 hat7; clear hg7 hat7; rw [List.nil_append] at ho7))
                  obtain ⟨g, cap, rfl, hgb, hgl, _⟩ := Kd.R_form ho7 (by rw [← Hn.out]; omega)
                  have Ho7 := Lib.hid ho7
                  clear ho5 hb5 ho7
                  rw [← Hn.out] at Ho7 ⊢
                  obtain ⟨a, ha⟩ : ∃ a, a = l.getD k 0 := ⟨_, rfl⟩
                  obtain ⟨b, hb⟩ : ∃ b, b = l.getD (k + 1) 0 := ⟨_, rfl⟩
                  have c1 := Kd.R_celln (0 : Int) Ho7.out (k : Int) (by omega) (by omega)
                  have c2 := Kd.R_celln (0 : Int) Ho7.out ((k + 1 : Nat) : Int) (by omega) (by omega)
                  rw [Int.toNat_natCast] at c1 c2
                  have d1 : w7.cell? { block := g, off := k } = some (.int .i64 a) := by rw [c1.1, ha]; simp [rdOf]
                  have d2' : w7.cell? { block := g, off := k + 1 } = some (.int .i64 b) := by rw [c2.1, hb]; simp [rdOf]
                  have d3 := c1.2
                  have d4 := c2.2
                  clear c1 c2
                  go_wp2
                  go_region
                  have R1 := Kd.R_drew (Kd.R_putn (Kd.R_putn Ho7.out (k : Int) (l[k + 1]?.getD 0)) ((k + 1 : Nat) : Int) (l[k]?.getD 0))
                  rw [Int.toNat_natCast, Int.toNat_natCast] at R1
                  obtain ⟨w8, hw8⟩ : ∃ w8, w8 = ((w7.setCell { block := g, off := k } (Value.int IntKind.i64 (l[k + 1]?.getD 0))).setCell { block := g, off := k + 1 } (Value.int IntKind.i64 (l[k]?.getD 0))).drew := ⟨_, rfl⟩
                  have hb8 : Below w.heap.size w w8 := by
                    rw [hw8]
                    exact (((hb2.trans (hb7.mono hb2.size)).setCell (p := { block := g, off := k }) (Nat.le_trans hb2.size hgb) _).setCell (p := { block := g, off := k + 1 }) (Nat.le_trans hb2.size hgb) _).drew
                  rw [← hw8] at R1 ⊢
                  obtain ⟨hml, hcap, hCm⟩ := Kd.R_reads' R1
                  have E9 := Lib.hid (encode_c (some { block := g, off := 0 }) cap _ next w8 hCm (by omega) (by omega))
                  rw [← hml, decide_eq_false (swap_not l next k m (by rw [← Hn.out]; exact hkn))] at E9
                  clear d1 d2' d3 d4 R1 hw8 Ho7 hCm hml ha hb
                  go_wp2_with fail
                  refine E9.out.mono ?_
                  rintro e w3 ⟨rfl, hB3⟩
                  have hb3 : Below w.heap.size w w3 := hb8.trans (hB3.mono hb8.size)
                  clear E9 hB3 hb8
                  go_wp2_with fail
                  refine (W0.out _).mono ?_
                  rintro e w4 ⟨rfl, hB4⟩
                  have hb4 : Below w.heap.size w w4 := hb3.trans (hB4.mono hb3.size)
                  go_wp2
                  go_ret
                  exact ⟨rfl, hb4⟩
              · have hse : enc l next = E0 := if_neg m
                rw [decide_eq_false m] at hbm
                simp only [decide_eq_false m, hse] at E1
                subst hbm
                go_wp2_with fail
                refine E1.out.mono ?_
                rintro e w2 ⟨rfl, hB2⟩
                have hb2 : Below w.heap.size w w2 := HBr.trans (hB2.mono HBr.size)
                clear E1 hB2 HBr
                go_wp2_with fail
                refine (W0.out _).mono ?_
                rintro e w3 ⟨rfl, hB3⟩
                have hb3 : Below w.heap.size w w3 := hb2.trans (hB3.mono hb2.size)
                go_wp2
                go_ret
                exact ⟨rfl, hb3⟩
    · have r1 : decide ((n : Int) ≤ 20) = false := decide_eq_false (by omega)
      have hw0 : false = wB l next 0 := (decide_eq_false (fun h => by omega)).symm
      have HW0 := Lib.hid hw0
      clear hw0 hn
      go_wp2_with fail
      go_loopw [7, 8] (fun v7 v8 w' => ∃ (i : Nat) (b : Bool), i ≤ n ∧ v8 = .int .i64 (i : Int) ∧ v7 = .bool b ∧ Aside0 (b = wB l next i) ∧ Aside0 (Below w.heap.size w w')) (fun _ v8 _ => (n - intOf v8).toNat)
      case atStart => exact ⟨0, false, by omega, rfl, rfl, ⟨HW0.out⟩, ⟨Below.refl _ _⟩⟩
      case round =>
        obtain ⟨i, b, hi, rfl, rfl, hb0, HB⟩ := hrel
        by_cases hlt : i < n
        · have p1 : decide ((i : Int) < (n : Int)) = true := decide_eq_true (by omega)
          obtain ⟨ad, rfl, hlall⟩ := HAD.out (by omega)
          obtain ⟨x, hxe⟩ : ∃ x, x = l.getD i 0 := ⟨_, rfl⟩
          obtain ⟨y, hye⟩ : ∃ y, y = l.getD (i - 1) 0 := ⟨_, rfl⟩
          have hl : ∀ w', Cm.Calm wr w' → w'.cell? (ad.add i) = some (.int .i64 x) := fun w' hw => by rw [hxe]; exact hlall w' (HB.out.trans (hw.below.mono HB.out.size)) i (by omega)
          have hl2 : ∀ w', Cm.Calm wr w' → w'.cell? (ad.add (i - 1)) = some (.int .i64 y) := fun w' hw => by rw [hye]; exact hlall w' (HB.out.trans (hw.below.mono HB.out.size)) (i - 1) (by omega)
          have HL := Lib.hid hl
          have HL2 := Lib.hid hl2
          clear hl hl2
          have hs := wB_step l next i
          rw [← hxe, ← hye] at hs
          have Hs := Lib.hid hs
          clear hs hxe hye hlall
          cases b with
          | false =>
            go_wp2_with fail
            refine wp_region_calm_lit wr (by kernel_rfl) (by kernel_rfl) (Cm.Calm.refl _) ?_
            repeat (first | go_big_quiet_step (fail) | (refine wpQuiet_step (fun K hK => ?_); go_simp; first | (refine hK _ ?_; clear hK K) | (refine ⟨.int .i64 x, fun w' hw => by simp only [HL.out w' hw]; exact ⟨rfl, rfl⟩, hK _ ?_⟩; clear hK K) | (refine ⟨.int .i64 y, fun w' hw => by simp only [HL2.out w' hw]; exact ⟨rfl, rfl⟩, hK _ ?_⟩; clear hK K) | (refine ⟨.int .i64 x, fun w' hw => by simp only [HL0.out w' hw]; exact ⟨rfl, rfl⟩, hK _ ?_⟩; clear hK K) | (refine ⟨.int .i64 y, fun w' hw => by simp only [HL0.out w' hw]; exact ⟨rfl, rfl⟩, hK _ ?_⟩; clear hK K) | (refine ⟨_, fun _ _ => rfl, hK _ ?_⟩; clear hK K)))
            refine wpQuiet_nil ?_
            intro w5 hC5
            have hb5 : Below w.heap.size w w5 := HB.out.trans (hC5.below.mono HB.out.size)
            clear HL HL2 hC5
            go_wp2
            exact ⟨⟨i + 1, false, hlt, by simp, rfl, ⟨by rw [Hs.out, ← hb0.out]; rfl⟩, ⟨hb5⟩⟩, by simp [intOf]; omega⟩
          | true =>
            by_cases x1 : 2 ≤ x
            · have g1 : decide (2 ≤ x) = true := decide_eq_true x1
              by_cases x2 : x < 200
              · have g2 : decide (x < 200) = true := decide_eq_true x2
                by_cases x3 : i = 0
                · subst x3
                  have HL0 := Lib.hid fun (w' : World) (hw : Cm.Calm wr w') => show w'.cell? ad = some (.int .i64 x) from by rw [← HL.out w' hw]; cases ad; simp [Addr.add]
                  go_wp2_with fail
                  refine wp_region_calm_lit wr (by kernel_rfl) (by kernel_rfl) (Cm.Calm.refl _) ?_
                  repeat (first | go_big_quiet_step (fail) | (refine wpQuiet_step (fun K hK => ?_); go_simp; first | (refine hK _ ?_; clear hK K) | (refine ⟨.int .i64 x, fun w' hw => by simp only [HL.out w' hw]; exact ⟨rfl, rfl⟩, hK _ ?_⟩; clear hK K) | (refine ⟨.int .i64 y, fun w' hw => by simp only [HL2.out w' hw]; exact ⟨rfl, rfl⟩, hK _ ?_⟩; clear hK K) | (refine ⟨.int .i64 x, fun w' hw => by simp only [HL0.out w' hw]; exact ⟨rfl, rfl⟩, hK _ ?_⟩; clear hK K) | (refine ⟨.int .i64 y, fun w' hw => by simp only [HL0.out w' hw]; exact ⟨rfl, rfl⟩, hK _ ?_⟩; clear hK K) | (refine ⟨_, fun _ _ => rfl, hK _ ?_⟩; clear hK K)))
                  refine wpQuiet_nil ?_
                  intro w5 hC5
                  have hb5 : Below w.heap.size w w5 := HB.out.trans (hC5.below.mono HB.out.size)
                  clear HL HL2 hC5
                  go_wp2
                  exact ⟨⟨0 + 1, true, hlt, by simp, rfl, ⟨by rw [Hs.out, ← hb0.out, g1, g2]; rfl⟩, ⟨hb5⟩⟩, by simp [intOf]; omega⟩
                · obtain ⟨j, hj⟩ : ∃ j, j = i - 1 := ⟨_, rfl⟩
                  have g3 : ((i : Int) == 0) = false := beq_eq_false_iff_ne.2 (by omega)
                  have g4 : (i : Int) - 1 = (j : Int) := by omega
                  have g6 : j < n := by omega
                  have g8 : IntKind.i64.wrap (j : Int) = (j : Int) := by rw [IntKind.wrap_i64]; omega
                  have g7 : decide (i = 0) = false := decide_eq_false x3
                  have HL0 := HL2
                  simp only [← hj] at HL2
                  clear hj
                  by_cases x4 : y < x
                  · have g5 : decide (y < x) = true := decide_eq_true x4
                    go_wp2_with fail
                    refine wp_region_calm_lit wr (by kernel_rfl) (by kernel_rfl) (Cm.Calm.refl _) ?_
                    repeat (first | go_big_quiet_step (fail) | (refine wpQuiet_step (fun K hK => ?_); go_simp; first | (refine hK _ ?_; clear hK K) | (refine ⟨.int .i64 x, fun w' hw => by simp only [HL.out w' hw]; exact ⟨rfl, rfl⟩, hK _ ?_⟩; clear hK K) | (refine ⟨.int .i64 y, fun w' hw => by simp only [HL2.out w' hw]; exact ⟨rfl, rfl⟩, hK _ ?_⟩; clear hK K) | (refine ⟨.int .i64 x, fun w' hw => by simp only [HL0.out w' hw]; exact ⟨rfl, rfl⟩, hK _ ?_⟩; clear hK K) | (refine ⟨.int .i64 y, fun w' hw => by simp only [HL0.out w' hw]; exact ⟨rfl, rfl⟩, hK _ ?_⟩; clear hK K) | (refine ⟨_, fun _ _ => rfl, hK _ ?_⟩; clear hK K)))
                    refine wpQuiet_nil ?_
                    intro w5 hC5
                    have hb5 : Below w.heap.size w w5 := HB.out.trans (hC5.below.mono HB.out.size)
                    clear HL HL2 hC5
                    go_wp2
                    exact ⟨⟨i + 1, true, hlt, by simp, rfl, ⟨by rw [Hs.out, ← hb0.out, g1, g2, g5, g7]; rfl⟩, ⟨hb5⟩⟩, by simp [intOf]; omega⟩
                  · have g5 : decide (y < x) = false := decide_eq_false x4
                    go_wp2_with fail
                    refine wp_region_calm_lit wr (by kernel_rfl) (by kernel_rfl) (Cm.Calm.refl _) ?_
                    repeat (first | go_big_quiet_step (fail) | (refine wpQuiet_step (fun K hK => ?_); go_simp; first | (refine hK _ ?_; clear hK K) | (refine ⟨.int .i64 x, fun w' hw => by simp only [HL.out w' hw]; exact ⟨rfl, rfl⟩, hK _ ?_⟩; clear hK K) | (refine ⟨.int .i64 y, fun w' hw => by simp only [HL2.out w' hw]; exact ⟨rfl, rfl⟩, hK _ ?_⟩; clear hK K) | (refine ⟨.int .i64 x, fun w' hw => by simp only [HL0.out w' hw]; exact ⟨rfl, rfl⟩, hK _ ?_⟩; clear hK K) | (refine ⟨.int .i64 y, fun w' hw => by simp only [HL0.out w' hw]; exact ⟨rfl, rfl⟩, hK _ ?_⟩; clear hK K) | (refine ⟨_, fun _ _ => rfl, hK _ ?_⟩; clear hK K)))
                    refine wpQuiet_nil ?_
                    intro w5 hC5
                    have hb5 : Below w.heap.size w w5 := HB.out.trans (hC5.below.mono HB.out.size)
                    clear HL HL2 hC5
                    go_wp2
                    exact ⟨⟨i + 1, false, hlt, by simp, rfl, ⟨by rw [Hs.out, ← hb0.out, g1, g2, g5, g7]; rfl⟩, ⟨hb5⟩⟩, by simp [intOf]; omega⟩
              · have g2 : decide (x < 200) = false := decide_eq_false x2
                go_wp2_with fail
                refine wp_region_calm_lit wr (by kernel_rfl) (by kernel_rfl) (Cm.Calm.refl _) ?_
                repeat (first | go_big_quiet_step (fail) | (refine wpQuiet_step (fun K hK => ?_); go_simp; first | (refine hK _ ?_; clear hK K) | (refine ⟨.int .i64 x, fun w' hw => by simp only [HL.out w' hw]; exact ⟨rfl, rfl⟩, hK _ ?_⟩; clear hK K) | (refine ⟨.int .i64 y, fun w' hw => by simp only [HL2.out w' hw]; exact ⟨rfl, rfl⟩, hK _ ?_⟩; clear hK K) | (refine ⟨.int .i64 x, fun w' hw => by simp only [HL0.out w' hw]; exact ⟨rfl, rfl⟩, hK _ ?_⟩; clear hK K) | (refine ⟨.int .i64 y, fun w' hw => by simp only [HL0.out w' hw]; exact ⟨rfl, rfl⟩, hK _ ?_⟩; clear hK K) | (refine ⟨_, fun _ _ => rfl, hK _ ?_⟩; clear hK K)))
                refine wpQuiet_nil ?_
                intro w5 hC5
                have hb5 : Below w.heap.size w w5 := HB.out.trans (hC5.below.mono HB.out.size)
                clear HL HL2 hC5
                go_wp2
                exact ⟨⟨i + 1, false, hlt, by simp, rfl, ⟨by rw [Hs.out, ← hb0.out, g1, g2]; rfl⟩, ⟨hb5⟩⟩, by simp [intOf]; omega⟩
            · have g1 : decide (2 ≤ x) = false := decide_eq_false x1
              go_wp2_with fail
              refine wp_region_calm_lit wr (by kernel_rfl) (by kernel_rfl) (Cm.Calm.refl _) ?_
              repeat (first | go_big_quiet_step (fail) | (refine wpQuiet_step (fun K hK => ?_); go_simp; first | (refine hK _ ?_; clear hK K) | (refine ⟨.int .i64 x, fun w' hw => by simp only [HL.out w' hw]; exact ⟨rfl, rfl⟩, hK _ ?_⟩; clear hK K) | (refine ⟨.int .i64 y, fun w' hw => by simp only [HL2.out w' hw]; exact ⟨rfl, rfl⟩, hK _ ?_⟩; clear hK K) | (refine ⟨.int .i64 x, fun w' hw => by simp only [HL0.out w' hw]; exact ⟨rfl, rfl⟩, hK _ ?_⟩; clear hK K) | (refine ⟨.int .i64 y, fun w' hw => by simp only [HL0.out w' hw]; exact ⟨rfl, rfl⟩, hK _ ?_⟩; clear hK K) | (refine ⟨_, fun _ _ => rfl, hK _ ?_⟩; clear hK K)))
              refine wpQuiet_nil ?_
              intro w5 hC5
              have hb5 : Below w.heap.size w w5 := HB.out.trans (hC5.below.mono HB.out.size)
              clear HL HL2 hC5
              go_wp2
              exact ⟨⟨i + 1, false, hlt, by simp, rfl, ⟨by rw [Hs.out, ← hb0.out, g1]; rfl⟩, ⟨hb5⟩⟩, by simp [intOf]; omega⟩
        · have p1 : decide ((i : Int) < (n : Int)) = false := decide_eq_false (by omega)
          have hin : i = n := by omega
          have hbm : b = decide (May l next) := by rw [hb0.out, hin, Hn.out]; exact wB_all l next
          have HBr := HB.out
          clear HB hb0 hin hi
          have E1 := Lib.hid (E.out wr HBr)
          by_cases m : May l next
          · have hsz0 := encs l next m
            rw [decide_eq_true m] at hbm
            simp only [decide_eq_true m] at E1
            subst hbm
            obtain ⟨en, hen⟩ : ∃ en, en = enc l next := ⟨_, rfl⟩
            rw [← Hn.out] at hsz0
            simp only [← hen] at E1 hsz0
            clear hen
            go_wp2_with fail
            refine E1.out.mono ?_
            rintro e w2 ⟨rfl, hB2⟩
            have hb2 : Below w.heap.size w w2 := HBr.trans (hB2.mono HBr.size)
            clear E1 hB2 HBr
            by_cases l2 : n < 2
            · have d2 : decide ((n : Int) < 2) = true := decide_eq_true (by omega)
              go_wp2_with fail
              refine (W0.out _).mono ?_
              rintro e w3 ⟨rfl, hB3⟩
              have hb3 : Below w.heap.size w w3 := hb2.trans (hB3.mono hb2.size)
              go_wp2
              go_ret
              exact ⟨rfl, hb3⟩
            · have d2 : decide ((n : Int) < 2) = false := decide_eq_false (by omega)
              obtain ⟨k, hk⟩ : ∃ k : Nat, q % ((n : Int) - 1) = (k : Int) := ⟨(q % ((n : Int) - 1)).toNat, by rw [Int.toNat_of_nonneg (Int.emod_nonneg _ (by omega))]⟩
              have hkn : k + 1 < n := by have := Int.emod_lt_of_pos q (show (0 : Int) < (n : Int) - 1 by omega); omega
              go_wp2_with (first | ((with_reducible refine gate_dst (N := 114) rfl ?_); refine Kd.R_lit (Kd.int .i64) _ 3 ?hg (N := 114) ?hd (xs := ([] : List Int)) (inner := []) (ok := fun _ => True) (okp := fun _ => True) ?hr ?hp (fun _ hk => hk) trivial (Below.refl _ _) (Nat.le_refl _) (by simp) ?_; (case hd => rfl); (case hg => rfl); (case hr => first | (go_simp; done) | (go_simp; rfl)); (case hp => exact (Reps.none _ _)); intro v5 w9 ho5 hb5 hg_ hnew_; clear hg_ hnew_) | ((with_reducible refine gate_builtin (b := .append) (xs := #[.tmp 114, .tmp 115]) rfl ?_); at_builtin; refine Kd.R_append_row (Value.int .i64) (0 : Int) (h1 := fun _ => rfl) (w0 := w2) w2.heap.size rfl (.tmp 114) (.tmp 115) 39 3 (.int .i64 0) 8 rfl Try.underlying39 PLis.info3 rfl (by decide) v5 [] l _ _ _ (fun _ => True) rfl rfl (fun _ _ => trivial) ho5 (by rw [Hn.out]; exact HR.out _ (hb2.trans (hb5.mono hb2.size))) hb5 hb5.size (by simp; omega) ?_; intro v7 w7 ho7 hb7 hg7 hat7; clear hg7 hat7; rw [List.nil_append] at ho7))
              obtain ⟨g, cap, rfl, hgb, hgl, _⟩ := Kd.R_form ho7 (by rw [← Hn.out]; omega)
              have Ho7 := Lib.hid ho7
              clear ho5 hb5 ho7
              rw [← Hn.out] at Ho7 ⊢
              obtain ⟨a, ha⟩ : ∃ a, a = l.getD k 0 := ⟨_, rfl⟩
              obtain ⟨b, hb⟩ : ∃ b, b = l.getD (k + 1) 0 := ⟨_, rfl⟩
              have c1 := Kd.R_celln (0 : Int) Ho7.out (k : Int) (by omega) (by omega)
              have c2 := Kd.R_celln (0 : Int) Ho7.out ((k + 1 : Nat) : Int) (by omega) (by omega)
              rw [Int.toNat_natCast] at c1 c2
              have d1 : w7.cell? { block := g, off := k } = some (.int .i64 a) := by rw [c1.1, ha]; simp [rdOf]
              have d2' : w7.cell? { block := g, off := k + 1 } = some (.int .i64 b) := by rw [c2.1, hb]; simp [rdOf]
              have d3 := c1.2
              have d4 := c2.2
              clear c1 c2
              go_wp2
              go_region
              have R1 := Kd.R_drew (Kd.R_putn (Kd.R_putn Ho7.out (k : Int) (l[k + 1]?.getD 0)) ((k + 1 : Nat) : Int) (l[k]?.getD 0))
              rw [Int.toNat_natCast, Int.toNat_natCast] at R1
              obtain ⟨w8, hw8⟩ : ∃ w8, w8 = ((w7.setCell { block := g, off := k } (Value.int IntKind.i64 (l[k + 1]?.getD 0))).setCell { block := g, off := k + 1 } (Value.int IntKind.i64 (l[k]?.getD 0))).drew := ⟨_, rfl⟩
              have hb8 : Below w.heap.size w w8 := by
                rw [hw8]
                exact (((hb2.trans (hb7.mono hb2.size)).setCell (p := { block := g, off := k }) (Nat.le_trans hb2.size hgb) _).setCell (p := { block := g, off := k + 1 }) (Nat.le_trans hb2.size hgb) _).drew
              rw [← hw8] at R1 ⊢
              obtain ⟨hml, hcap, hCm⟩ := Kd.R_reads' R1
              have E9 := Lib.hid (encode_c (some { block := g, off := 0 }) cap _ next w8 hCm (by omega) (by omega))
              rw [← hml, decide_eq_false (swap_not l next k m (by rw [← Hn.out]; exact hkn))] at E9
              clear d1 d2' d3 d4 R1 hw8 Ho7 hCm hml ha hb
              go_wp2_with fail
              refine E9.out.mono ?_
              rintro e w3 ⟨rfl, hB3⟩
              have hb3 : Below w.heap.size w w3 := hb8.trans (hB3.mono hb8.size)
              clear E9 hB3 hb8
              go_wp2_with fail
              refine (W0.out _).mono ?_
              rintro e w4 ⟨rfl, hB4⟩
              have hb4 : Below w.heap.size w w4 := hb3.trans (hB4.mono hb3.size)
              go_wp2
              go_ret
              exact ⟨rfl, hb4⟩
          · have hse : enc l next = E0 := if_neg m
            rw [decide_eq_false m] at hbm
            simp only [decide_eq_false m, hse] at E1
            subst hbm
            go_wp2_with fail
            refine E1.out.mono ?_
            rintro e w2 ⟨rfl, hB2⟩
            have hb2 : Below w.heap.size w w2 := HBr.trans (hB2.mono HBr.size)
            clear E1 hB2 HBr
            go_wp2_with fail
            refine (W0.out _).mono ?_
            rintro e w3 ⟨rfl, hB3⟩
            have hb3 : Below w.heap.size w w3 := hb2.trans (hB3.mono hb2.size)
            go_wp2
            go_ret
            exact ⟨rfl, hb3⟩
  · go_enter Try.func10, Try.ntmps10
    have t1 : decide ((100 : Int) < (l.length : Int)) = true := decide_eq_true (by omega)
    go_wp2_with fail
    refine (Calm.call hC0 (W0.out _)).mono ?_
    rintro e w1 ⟨rfl, hC1⟩
    go_wp2
    go_ret
    exact ⟨rfl, hC1.below⟩
end Go.Proofs.Ytbgojedhciimaaa.LisR
