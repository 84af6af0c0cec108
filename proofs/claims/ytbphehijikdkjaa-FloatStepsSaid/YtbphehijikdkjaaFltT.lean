/-
  The law FloatTells, walked by hand over the contracts.
-/
import Derived.Test.YtbphehijikdkjaaFltW
import Derived.Test.YtbphehijikdkjaaFltO
namespace Go.Proofs.Ytbphehijikdkjaa.FltT
open Go.RowKit Go.Proofs.Ytbphehijikdkjaa.FltH Go.Proofs.Ytbphehijikdkjaa.FltK Go.Proofs.Ytbphehijikdkjaa.FltV Go.Proofs.Ytbphehijikdkjaa.FltR Go.Proofs.Ytbphehijikdkjaa.FltW Go.Proofs.Ytbphehijikdkjaa.FltO Go.Proofs.YtbphehijikdkjaaW.PrintWords Go.Proofs.Ytbphehijikdkjaa.Str Go.Proofs.Ytbphehijikdkjaa.Cm
set_option linter.unusedVariables false
attribute [local go_sem] run_store_float
theorem u64_wf {n : Int} (h : (Lit.int .u64 n).wf = true) : ∃ b : Nat, n = (b : Int) ∧ b < 18446744073709551616 := by
  have hm : IntKind.u64.min ≤ n ∧ n ≤ IntKind.u64.max := by simpa [Lit.wf] using h
  have h0 : 0 ≤ n := hm.1
  have h1 := hm.2
  have h2 : IntKind.u64.max = 18446744073709551615 := rfl
  obtain ⟨b, rfl⟩ := Int.eq_ofNat_of_zero_le h0
  exact ⟨b, rfl, by omega⟩
set_option maxHeartbeats 2000000 in
theorem walk (n m : Int) (k : ByteArray) (w : World) (hn : (Lit.int .u64 n).wf = true) (hm : (Lit.int .u64 m).wf = true) (hk : k.size ≤ 140737488351232) :
    Calls Try.prog 3 #[.int .u64 n, .int .u64 m, .string k] w fun e w' => e = .returned (.bool true) ∧ Below w.heap.size w w' := by
  obtain ⟨a, rfl, ha⟩ := u64_wf hn
  obtain ⟨b, rfl, hb⟩ := u64_wf hm
  clear hn hm
  have hfr := fun (n : Nat) W => from_run n W
  obtain ⟨⟨u, o⟩, hv⟩ : ∃ p, p = valS k := ⟨_, rfl⟩
  obtain ⟨t, ht⟩ : ∃ t, t = strOfNums (be8 (ordB a)) := ⟨_, rfl⟩
  obtain ⟨ra, hra⟩ : ∃ r, r = ordB a := ⟨_, rfl⟩
  obtain ⟨rb, hrb⟩ : ∃ r, r = ordB b := ⟨_, rfl⟩
  have V1 := Lib.hid fun W => val_c hv.symm W
  have V2 := Lib.hid fun W => rvalue_c k W
  rw [← hv] at V2
  have K1 := Lib.hid fun W => key_c a ha W
  have K2 := Lib.hid fun W => rkey_c a ha W
  rw [← ht] at K1 K2
  have B1 := Lib.hid fun W => of_same (lbits_c u W)
  have L1 := Lib.hid fun W => of_same (less_c a b W)
  have S1 := Lib.hid fun W => of_same (same_c a b W)
  rw [less_ord a b ha hb, ← hra, ← hrb] at L1
  rw [same_ord a b ha hb, ← hra, ← hrb] at S1
  have R1 := Lib.hid fun W => of_same (rank_c a ha W)
  have R2 := Lib.hid fun W => of_same (rank_c b hb W)
  rw [← hra] at R1
  rw [← hrb] at R2
  have e1 : (t.toList == t.toList) = true := by simp
  have e2 : (o == o) = true := by simp
  have e3 : ((u : Int) == (u : Int)) = true := by simp
  have e4 : (decide (ra < rb) == decide (ra < rb)) = true := by simp
  have e5 : (decide (ra = rb) == decide (ra = rb)) = true := by simp
  have e6 : ((ra : Int) == (rb : Int)) = decide (ra = rb) := by
    by_cases h : ra = rb
    · rw [h]; simp
    · rw [decide_eq_false h, beq_eq_false_iff_ne]; omega
  clear hv ht hra hrb
  have hC3 := Cm.Calm.refl w
  go_enter Try.func3, Try.ntmps3
  go_wp2_with fail
  refine (Calm.call hC3 (V1.out _)).mono ?_; rintro e w9 ⟨rfl, hC9⟩; clear hC3; have hC3 := hC9; clear hC9; go_wp2_with fail
  refine (Calm.call hC3 (V2.out _)).mono ?_; rintro e w9 ⟨rfl, hC9⟩; clear hC3; have hC3 := hC9; clear hC9; go_wp2_with fail
  have hb1 := blk_new w9 (Obj.cells #[Value.float FloatKind.f64 u, Value.bool o] 28)
  have hA := hC3.alloc (Obj.cells #[Value.float FloatKind.f64 u, Value.bool o] 28)
  obtain ⟨W0, hW0⟩ : ∃ W0, W0 = w9.alloc (Obj.cells #[Value.float FloatKind.f64 u, Value.bool o] 28) := ⟨_, rfl⟩
  obtain ⟨B, hB⟩ : ∃ B, B = w9.heap.size := ⟨_, rfl⟩
  rw [← hW0, ← hB] at hb1
  rw [← hW0] at hA
  rw [← hW0, ← hB]
  have hl0 : ∀ w', Cm.Calm W0 w' → w'.cell? ⟨B, 0, none⟩ = some (.float .f64 u) := fun w' hw => by have := blk_cell (blk_below hb1 hw.below) 0; simpa using this
  have hl1 : ∀ w', Cm.Calm W0 w' → w'.cell? ⟨B, 1, none⟩ = some (.bool o) := fun w' hw => by have := blk_cell (blk_below hb1 hw.below) 1; simpa using this
  clear hC3 hW0 hB hb1
  have hC0 := Cm.Calm.refl W0
  refine Cm.wp_region_calm_lit W0 (by kernel_rfl) (by kernel_rfl) hC0 ?_
  repeat (first | go_big_quiet_step (fail) | (refine wpQuiet_step (fun K hK => ?_); go_simp; first | (refine hK _ ?_; clear hK K) | (refine ⟨_, fun _ _ => rfl, hK _ ?_⟩; clear hK K) | (refine ⟨.bool o, fun w' hw => by simp only [hl1 w' hw]; exact ⟨rfl, rfl⟩, hK _ ?_⟩; clear hK K) | (refine ⟨.float .f64 u, fun w' hw => by simp only [hl0 w' hw]; exact ⟨rfl, rfl⟩, hK _ ?_⟩; clear hK K) | (apply Exists.intro; refine ⟨fun _ hc_ => ?_, hK _ ?_⟩; (first | with_reducible exact Calm.call hc_ (K1.out _) | with_reducible exact Calm.call hc_ (K2.out _) | with_reducible exact Calm.call hc_ (B1.out _) | with_reducible exact Calm.call hc_ (L1.out _) | with_reducible exact Calm.call hc_ (S1.out _) | with_reducible exact Calm.call hc_ (R1.out _) | with_reducible exact Calm.call hc_ (R2.out _) | with_reducible exact Calm.call hc_ (wakes_c _)); clear hK K)))
  refine wpQuiet_nil ?_
  intro w7 hC7
  go_wp2
  go_ret
  exact ⟨rfl, (hA.trans hC7).below⟩
end Go.Proofs.Ytbphehijikdkjaa.FltT
