/-
  slices.Clone of whole numbers by hand.
-/
import Derived.Test.YtbgojedhciimaaaLisE
namespace Go.Proofs.Ytbgojedhciimaaa.LisK
open Go.RowKit Go.Proofs.YtbgojedhciimaaaW.PrintWords Go.Proofs.YtbgojedhciimaaaW.PrintMore Go.Proofs.Ytbgojedhciimaaa.Cm Go.Proofs.Ytbgojedhciimaaa.LisH Go.Proofs.Ytbgojedhciimaaa.LisE Go.Proofs.Ytbgojedhciimaaa.PLis
set_option linter.unusedVariables false
theorem info3 : (Try.prog.info? 3).map (fun i => (i.zero, i.size, i.bytes)) = some (some (.int .i64 0), 1, 8) := by kernel_rfl
theorem run_equalIn_slice_nil {P : Program} (w : World) (d : Nat) (t e : TypeId) (a : Option Addr) (l c : Nat) (h : P.underlying t = some (.slice e)) : (Op.equalIn (d + 1) t (.slice a l c) (.slice none 0 0)).run P w = .ok a.isNone w := by
  cases a <;> simp [Op.equalIn, run_underlying h]
theorem run_equal_slice_nil {P : Program} (w : World) (t e : TypeId) (a : Option Addr) (l c : Nat) (h : P.underlying t = some (.slice e)) : (Op.equal t (.slice a l c) (.slice none 0 0)).run P w = .ok a.isNone w := run_equalIn_slice_nil w 9999 t e a l c h
theorem run_eql_slice_nil {P : Program} (w : World) (t e : TypeId) (a : Option Addr) (l c : Nat) (h : P.underlying t = some (.slice e)) : (binOp .eql t (.slice a l c) (.slice none 0 0)).run P w = .ok (.bool a.isNone) w := by
  simp [binOp, run_equal_slice_nil w t e a l c h]
set_option maxHeartbeats 2000000 in
theorem clone_c (ad : Addr) (c : Nat) (l : List Int) (w : World) (hr : Kd.C (Kd.int .i64) w (some ad) l.length l) (hc : l.length ≤ c) (hl : l.length ≤ 500) :
    Calls Try.prog 40 #[.slice (some ad) l.length c] w fun e w' => ∃ v, e = .returned v ∧ Kd.R (Kd.int .i64) 3 w' w.heap.size (fun _ => True) v l ∧ Below w.heap.size w w' := by
  have HR := Lib.hid fun W (hb : Below w.heap.size w W) => Kd.C_below hr hb
  go_enter Try.func40, Try.ntmps40
  have hq := run_eql_slice_nil (P := Try.prog) w 39 3 (some ad) l.length c Try.underlying39
  simp only [Option.isNone_some] at hq
  go_wp2_with (first | ((with_reducible refine gate_dst (N := 5) rfl ?_); refine Kd.R_lit (Kd.int .i64) _ 3 ?hg (N := 5) ?hd (xs := ([] : List Int)) (inner := []) (ok := fun _ => True) (okp := fun _ => True) ?hr ?hp (fun _ hk => hk) trivial (Below.refl _ _) (Nat.le_refl _) (by simp) ?_; (case hd => rfl); (case hg => rfl); (case hr => first | (go_simp; done) | (go_simp; rfl)); (case hp => exact (Reps.none _ _)); intro v5 w9 ho5 hb5 hg_ hnew_; clear hg_ hnew_) | ((with_reducible refine gate_builtin (b := .append) (xs := #[.tmp 5, .tmp 6]) rfl ?_); at_builtin; refine Kd.R_append_row (Value.int .i64) (0 : Int) (h1 := fun _ => rfl) (w0 := w) w.heap.size rfl (.tmp 5) (.tmp 6) 39 3 (.int .i64 0) 8 rfl Try.underlying39 info3 rfl (by decide) v5 [] l _ _ _ (fun _ => True) rfl rfl (fun _ _ => trivial) ho5 ?aR ?aB ?aS ?aL ?_; (case aR => exact HR.out _ hb5); (case aB => exact hb5); (case aS => exact hb5.size); (case aL => simp; omega); intro v7 w7 ho7 hb7 hg7 hat7))
  exact bodyPost_ret (v := v7) (by simp [results, Try.results40, go_sem]) rfl ⟨v7, rfl, ho7, hb7⟩
end Go.Proofs.Ytbgojedhciimaaa.LisK
