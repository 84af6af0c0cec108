/-
  float.Key, walked by hand.
-/
import Derived.Test.YtbphehijikdkjaaFltH
import Derived.Test.YtbphehijikdkjaaWMore
import Derived.Laws.BytesArg
namespace Go.Proofs.Ytbphehijikdkjaa.FltK
open Go.RowKit Go.Proofs.Ytbphehijikdkjaa.FltH Go.Proofs.YtbphehijikdkjaaW.PrintWords Go.Proofs.YtbphehijikdkjaaW.PrintMore
set_option linter.unusedVariables false
/-- The bytes of a row of one's own, as numbers. -/
structure Row (w : World) (B : Nat) (l : List Int) : Prop where
  cell : ∀ j (h : j < l.length), w.cell? ⟨B, j, none⟩ = some (.int .u8 l[j])
  free : ∀ j, j < l.length → w.frozen? ⟨B, j, none⟩ = false
theorem Row.set {w : World} {B : Nat} {l : List Int} (h : Row w B l) (j : Nat) (hj : j < l.length) (v : Int) : Row (w.setCell ⟨B, j, none⟩ (.int .u8 v)) B (l.set j v) := by
  refine ⟨fun i hi => ?_, fun i hi => ?_⟩
  · rw [List.length_set] at hi
    rw [List.getElem_set]
    by_cases e : j = i
    · subst e
      rw [if_pos rfl, World.cell?_setCell_same' _ _ _ (by rw [h.cell j hj]; rfl)]
    · rw [if_neg e, World.cell?_setCell_other _ _ _ _ (by intro c; cases c; exact e rfl), h.cell i hi]
  · rw [List.length_set] at hi
    rw [World.frozen?_setCell]; exact h.free i hi
/-- A number's eight bytes, the greatest first. -/
def be8 (v : Nat) : List Int := (List.range 8).map fun i => ((v / 2 ^ (8 * (7 - i)) % 256 : Nat) : Int)
theorem be8_len (v : Nat) : (be8 v).length = 8 := by simp [be8]
set_option maxHeartbeats 1000000 in
theorem key_c (b : Nat) (hb : b < 18446744073709551616) (w : World) : Calls Try.prog 11 #[.float .f64 b] w fun e w' => e = .returned (.string (strOfNums (be8 (ordB b)))) ∧ Below w.heap.size w w' := by
  obtain ⟨v, hv⟩ : ∃ v, v = ordB b := ⟨_, rfl⟩
  have hvl : v < 18446744073709551616 := by rw [hv]; exact ordB_lt b hb
  have C := Lib.hid fun W => order_c b hb W
  rw [← hv] at C ⊢
  clear hv hb
  go_enter Try.func11, Try.ntmps11
  go_wp2_with (go_at_call 22; refine (C.out _).mono ?_; rintro e w1 ⟨rfl, rfl⟩)
  obtain ⟨B, hB⟩ : ∃ B, B = w1.heap.size := ⟨_, rfl⟩
  obtain ⟨W, hW⟩ : ∃ W, W = w1.alloc (Obj.cells #[Value.int IntKind.u8 0, Value.int IntKind.u8 0, Value.int IntKind.u8 0, Value.int IntKind.u8 0, Value.int IntKind.u8 0, Value.int IntKind.u8 0, Value.int IntKind.u8 0, Value.int IntKind.u8 0] 42) := ⟨_, rfl⟩
  have hrow : Row W B (List.replicate 8 0) := by
    rw [hW, hB]
    refine ⟨fun j h => ?_, fun j h => ?_⟩
    · have hj : j < 8 := by simpa using h
      rw [World.cell?_alloc_new, List.getElem_replicate]
      have : j = 0 ∨ j = 1 ∨ j = 2 ∨ j = 3 ∨ j = 4 ∨ j = 5 ∨ j = 6 ∨ j = 7 := by omega
      rcases this with rfl | rfl | rfl | rfl | rfl | rfl | rfl | rfl <;> rfl
    · simp [World.frozen?, World.alloc, -World.alloc_eq]
  have hbel : Below B w1 W := by rw [hW, hB]; exact (Below.refl _ _).alloc (Nat.le_refl _) _
  rw [← hW, ← hB]
  have HB := Lib.hid hB
  clear hW hB
  go_loopw [5, 8] (fun v5 v8 w' => ∃ (i : Nat) (l : List Int), i ≤ 8 ∧ l.length = 8 ∧ v8 = .int .i64 i ∧ l.take i = (be8 v).take i ∧ Row w' B l ∧ Below B w1 w') (fun _ v8 _ => 8 - (intOf v8).toNat)
  case atStart => exact ⟨0, _, by omega, by simp, rfl, by simp, hrow, hbel⟩
  case round =>
    obtain ⟨i, l, hi, hln, rfl, hle, hR, hb⟩ := hrel
    have Hle := Lib.hid hle
    have Hln := Lib.hid hln
    clear hle hln
    by_cases hlt : i < 8
    · have hil : i < l.length := by rw [Hln.out]; exact hlt
      have hcl := hR.cell _ hil
      have hfr := hR.free _ hil
      go_wp2
      have e : ((v : Int) / 2 ^ (8 * (7 - i)) % 256) = ((v / 2 ^ (8 * (7 - i)) % 256 : Nat) : Int) := by simp
      rw [e]
      refine ⟨⟨i + 1, l.set i ((v / 2 ^ (8 * (7 - i)) % 256 : Nat) : Int), by omega, by rw [List.length_set, Hln.out], by go_num, ?_, hR.set _ hil _, hb.setCell (Nat.le_refl _) _⟩, by simp [intOf]; omega⟩
      rw [List.take_succ_eq_append_getElem (by rw [List.length_set]; exact hil), List.take_succ_eq_append_getElem (by rw [be8_len]; exact hlt), List.take_set_of_le (Nat.le_refl _), Hle.out, List.getElem_set_self]
      simp [be8]
    · have hl : l = be8 v := by
        have h8 : i = 8 := by omega
        have := Hle.out
        rw [h8, List.take_of_length_le (by rw [Hln.out]; omega), List.take_of_length_le (by rw [be8_len]; omega)] at this
        exact this
      have hcv := run_convert_bytes_arg (P := Try.prog) wr 43 5 Try.underlying43 Try.underlying5 B 0 8 8 l Hln.out (fun j hj => by
        have hjl : j < l.length := by rw [Hln.out]; exact hj
        rw [Nat.zero_add, hR.cell j hjl]
        simp [List.getD, hjl]) 9 Try.underlying9
      have Hl := Lib.hid hl
      clear hl
      go_wp2
      go_ret
      exact ⟨by rw [Hl.out]; rfl, by rw [← HB.out]; exact hb⟩
theorem info5 : (Try.prog.info? 5).map (fun i => (i.zero, i.size, i.bytes)) = some (some (.int .u8 0), 1, 1) := by kernel_rfl
set_option maxHeartbeats 1000000 in
theorem rkey_c (b : Nat) (hb : b < 18446744073709551616) (w : World) : Calls Try.prog 12 #[.float .f64 b] w fun e w' => e = .returned (.string (strOfNums (be8 (ordB b)))) ∧ Below w.heap.size w w' := by
  obtain ⟨v, hv⟩ : ∃ v, v = ordB b := ⟨_, rfl⟩
  have hvl : v < 18446744073709551616 := by rw [hv]; exact ordB_lt b hb
  have C := Lib.hid fun W => rank_c b hb W
  rw [← hv] at C ⊢
  clear hv hb
  go_enter Try.func12, Try.ntmps12
  go_wp2_with (go_at_call 15; refine (C.out _).mono ?_; rintro e w1 ⟨rfl, rfl⟩)
  go_loopw [4, 5] (fun v4 v5 w' => ∃ (m : Nat) (xs : List Int), m ≤ 8 ∧ v5 = .int .i64 (7 - (m : Int)) ∧ xs = (be8 v).take m ∧ Aside0 (Kd.R (Kd.int .u8) 5 w' w1.heap.size (fun _ => True) v4 xs) ∧ Aside0 (Below w1.heap.size w1 w')) (fun _ v5 _ => (intOf v5 + 1).toNat)
  case atStart => exact ⟨0, [], by omega, rfl, by simp, ⟨Kd.R_nil _ _ _ _ _⟩, ⟨Below.refl _ _⟩⟩
  case round =>
    obtain ⟨m, xs, hm, rfl, hxs, HO, HB⟩ := hrel
    have Hxs := Lib.hid hxs
    clear hxs
    by_cases hlt : m < 8
    · obtain ⟨j, hj, hj7⟩ : ∃ j : Nat, m = 7 - j ∧ j ≤ 7 := ⟨7 - m, by omega, by omega⟩
      have e7 : (7 - (m : Int)) = (j : Int) := by omega
      rw [e7]
      have Hj := Lib.hid hj
      have E7 := Lib.hid e7
      clear hj e7
      go_wp2_with ((with_reducible refine gate_builtin (b := .append) (xs := #[.tmp 12, .tmp 19]) rfl ?_); at_builtin; refine Kd.R_append (Kd.int .u8) (w0 := w1) w1.heap.size rfl (.tmp 12) (.tmp 19) 43 5 (.int .u8 0) 1 rfl Try.underlying43 info5 rfl (by decide) (by omega) u4 xs ((v : Int) / 2 ^ (8 * j) % 256) [.int .u8 ((v : Int) / 2 ^ (8 * j) % 256)] (fun _ => True) (fun _ => False) rfl rfl ?aP (fun _ hk => hk.elim) ?aF ?aO ?aB ?aS ?aL ?_; (case aP => exact rfl); (case aF => exact (fun _ _ => trivial)); (case aO => exact HO.out); (case aB => exact HB.out); (case aS => exact HB.out.size); (case aL => rw [Hxs.out]; have := List.length_take_le m (be8 v); omega); intro v1 w2 ho hb hg hat)
      have e : ((v : Int) / 2 ^ (8 * j) % 256) = ((v / 2 ^ (8 * j) % 256 : Nat) : Int) := by simp
      refine ⟨⟨m + 1, _, by omega, by rw [show (7 - ((m + 1 : Nat) : Int)) = (j : Int) - 1 by have := E7.out; omega], ?_, ⟨ho⟩, ⟨hb⟩⟩, by have := E7.out; simp [intOf]⟩
      rw [List.take_succ_eq_append_getElem (by rw [be8_len]; exact hlt), Hxs.out, e]
      have hmj : 7 - m = j := by have := Hj.out; omega
      simp [be8, hmj]
    · have hm8 : m = 8 := by omega
      have hx8 : xs = be8 v := by rw [Hxs.out, hm8]; exact List.take_of_length_le (by rw [be8_len]; omega)
      have hneg : (7 - (m : Int)) = -1 := by omega
      have hcv := own_string (P := Try.prog) (dst := 9) Try.underlying43 Try.underlying5 Try.underlying9 (Kd.own_of_R HO.out)
      rw [hneg]
      rw [hx8] at hcv
      clear hneg hx8 hm8
      go_wp2
      go_ret
      exact ⟨rfl, HB.out⟩
end Go.Proofs.Ytbphehijikdkjaa.FltK
