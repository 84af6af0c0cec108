/-
  The law DigestTells, walked by hand.
-/
import Derived.Test.YtbphehijikdkjaaDoorDgsA
import Derived.Test.YtbphehijikdkjaaDoorDgsW
import Derived.ChangeKeysEq
namespace Go.Proofs.YtbphehijikdkjaaDoor.DgsF
open Go.RowKit Go.Proofs.YtbphehijikdkjaaDoorW.PrintWords Go.Proofs.YtbphehijikdkjaaDoorW.PrintMore Go.Proofs.YtbphehijikdkjaaDoor.Cm Go.Proofs.YtbphehijikdkjaaDoor.Str Go.Proofs.YtbphehijikdkjaaDoor.DgsP Go.Proofs.YtbphehijikdkjaaDoor.DgsS Go.Proofs.YtbphehijikdkjaaDoor.DgsB Go.Proofs.YtbphehijikdkjaaDoor.DgsL Go.Proofs.YtbphehijikdkjaaDoor.DgsO Go.Proofs.YtbphehijikdkjaaDoor.DgsX Go.Proofs.YtbphehijikdkjaaDoor.DgsW Go.Proofs.YtbphehijikdkjaaDoor.PDgs
set_option linter.unusedVariables false
theorem part_vals (k : IntKind) (l : List Nat) (i : Nat) (hi : i < l.length) (W : World) {e : TypeId} (hA : ∀ W : World, (isAgg e).run Tryd.prog W = .ok false W) (hS : ∀ W : World, (sizeOf e).run Tryd.prog W = .ok 1 W) :
    (part e (vals k l) i).run Tryd.prog W = .ok (.int k (l.getD i 0 : Nat)) W := by
  simp [part, hA, hS, go_sem, vals, hi]
theorem cells1 : Tryd.prog.cellsOf 22 = 1 := by kernel_rfl
theorem eqInt (d : Nat) (n : Int) (W : World) : (Op.equalIn (d + 1) 22 (.int .u32 n) (.int .u32 n)).run Tryd.prog W = .ok true W := by
  simp [Op.equalIn, run_underlying Tryd.underlying22]
theorem eqItems_same (l : List Nat) (W : World) : ∀ is : List Nat, (∀ i ∈ is, i < l.length) → (Op.eqItems 9999 22 1 (vals .u32 l) (vals .u32 l) is).run Tryd.prog W = .ok true W
  | [], _ => by simp [Op.eqItems]
  | i :: is, h => by
    have hi := h i (by simp)
    have hp := part_vals .u32 l i hi W Tryd.isAgg22 Tryd.sizeOf22
    have he : (Op.equalIn 9999 22 (.int .u32 (l.getD i 0 : Nat)) (.int .u32 (l.getD i 0 : Nat))).run Tryd.prog W = .ok true W := eqInt 9998 _ W
    simp only [Op.eqItems, Nat.mul_one, Sem.run_bind, hp, Result.andThen_ok, he]
    simpa using eqItems_same l W is (fun j hj => h j (by simp [hj]))
theorem info23 : ∃ i, Tryd.prog.info? 22 = some i := ⟨_, rfl⟩
theorem eq_same (l : List Nat) (hl : l.length = 8) (W : World) : (Op.equalIn 10000 23 (.agg (vals .u32 l)) (.agg (vals .u32 l))).run Tryd.prog W = .ok true W := by
  obtain ⟨i, hi⟩ := info23
  rw [run_equalIn_array W 9999 (vals .u32 l) (vals .u32 l) Tryd.underlying23 hi, cells1]
  exact eqItems_same l W _ (fun j hj => by rw [hl]; simpa using hj)
section
variable {P : Program} {C : World → Prop}
theorem quiet_load_mid {o : Oper} {a : Act} (ty : TypeId) (x : Operand) (ho : o.op = .load ty x) (B f : Nat) (cs : List Value) (d : TypeDesc) (hx : a.eval x = .pointer (some ⟨B, f, none⟩)) (hC : ∀ w, C w → w.rangeAt B f cs)
    (hu : P.underlying ty = some d) (hd : d.isRow = true) (hi : (P.info? ty).map (·.size) = some cs.length) : ∀ w, C w → o.quietAt P a C w (.agg cs.toArray) := by
  intro w hw
  unfold Oper.quietAt execOp
  simp only [ho, hx, Instr.loadAt, Instr.sureAddr, Sem.run_bind, Sem.run_pure, Result.andThen_ok, run_loadVar_mid w B f ty cs d (hC w hw) hu hd hi]
  exact ⟨rfl, rfl⟩
end
theorem qstep {P : Program} {ops : Array Oper} {C : World → Prop} {o : Oper} {a : Act} {K : Act → Prop} {N : Option Tmp} (hw : Region.wanted o (yielded ops a.tmps) = true) (hN : o.dst = N) (v : Value) (hq : ∀ w, C w → o.quietAt P a C w v) (h : K (a.put N v)) :
    if Region.wanted o (yielded ops a.tmps) then o.quiet P a C K else K (a.put N undef) := by
  rw [if_pos hw]
  subst hN
  exact ⟨v, hq, h⟩
/-- The argument's cells. -/
def asked (hs bs : List Nat) (N : Int) : Array Value := vals .u32 hs ++ vals .u8 bs ++ #[.int .i64 N]
theorem asked_size (hs bs : List Nat) (N : Int) (hl : hs.length = 8) (bl : bs.length = 64) : (asked hs bs N).size = 73 := by simp [asked, vals_size, hl, bl]
theorem asked_h (hs bs : List Nat) (N : Int) (hl : hs.length = 8) (w : World) (t : TypeId) : (w.alloc (.cells (asked hs bs N) t)).rangeAt w.heap.size 0 (vals .u32 hs).toList := by
  intro j v hv
  rw [Nat.zero_add, blk_cell (blk_new w (.cells (asked hs bs N) t)) j]
  rw [Array.getElem?_toList] at hv
  have hj := (Array.getElem?_eq_some_iff.1 hv).1
  unfold asked
  rw [Array.append_assoc, Array.getElem?_append_left hj]
  exact hv
theorem asked_b (hs bs : List Nat) (N : Int) (hl : hs.length = 8) (w : World) (t : TypeId) : (w.alloc (.cells (asked hs bs N) t)).rangeAt w.heap.size 8 (vals .u8 bs).toList := by
  intro j v hv
  rw [blk_cell (blk_new w (.cells (asked hs bs N) t)) (8 + j)]
  rw [Array.getElem?_toList] at hv
  have hj := (Array.getElem?_eq_some_iff.1 hv).1
  unfold asked
  rw [Array.append_assoc, Array.getElem?_append_right (by rw [vals_size, hl]; omega), vals_size, hl, show 8 + j - 8 = j by omega, Array.getElem?_append_left hj]
  exact hv
theorem asked_n (hs bs : List Nat) (N : Int) (hl : hs.length = 8) (bl : bs.length = 64) (w : World) (t : TypeId) : (w.alloc (.cells (asked hs bs N) t)).cell? ⟨w.heap.size, 72, none⟩ = some (.int .i64 N) := by
  rw [blk_cell (blk_new w (.cells (asked hs bs N) t)) 72]
  unfold asked
  rw [Array.getElem?_append_right (by rw [Array.size_append, vals_size, vals_size, hl, bl]; omega), Array.size_append, vals_size, vals_size, hl, bl]
  rfl
theorem range_below {w w' : World} {B f : Nat} {cs : List Value} (h : w.rangeAt B f cs) (hb : Below w.heap.size w w') (hB : B < w.heap.size) : w'.rangeAt B f cs := by
  intro j v hv
  exact (hb.cell (p := ⟨B, f + j, none⟩) hB).trans (h j v hv)
set_option maxRecDepth 100000 in
set_option maxHeartbeats 8000000 in
theorem walk (s : ByteArray) (hs bs : List Nat) (N : Int) (w : World) (hG : Glob w) (hl : hs.length = 8) (hh : ∀ x ∈ hs, x < M) (bl : bs.length = 64) (hb : ∀ x ∈ bs, x < 256) (hN : (Lit.int .i64 N).wf = true) :
    Calls Tryd.prog 3 #[.string s, .agg (asked hs bs N)] w fun e w' => e = .returned (.bool true) ∧ Below w.heap.size w w' := by
  have WK := Lib.hid fun W (g : Glob W) => wakes_c W g
  have HG := Lib.hid hG
  have hN2 : -9223372036854775808 ≤ N ∧ N ≤ 9223372036854775807 := by
    simp [Lit.wf, show IntKind.i64.min = -9223372036854775808 from rfl, show IntKind.i64.max = 9223372036854775807 from rfl] at hN
    exact hN
  clear hG hN
  by_cases hsz : s.size ≤ 300
  · have p0 : decide ((300 : Int) < (s.size : Int)) = false := decide_eq_false (by omega)
    have hrh := asked_h hs bs N hl w 26
    have hrb := asked_b hs bs N hl w 26
    have hrn := asked_n hs bs N hl bl w 26
    have hsz1 := asked_size hs bs N hl bl
    obtain ⟨A, hA⟩ : ∃ A, A = asked hs bs N := ⟨_, rfl⟩
    rw [← hA] at hrh hrb hrn ⊢
    have HS := Lib.hid hsz
    have HA := Lib.hid hA
    clear hsz hA
    go_enter Tryd.func3, Tryd.ntmps3
    go_wp2_with fail
    obtain ⟨n, hn⟩ : ∃ n, n = max (-4611686018427387904) (min N 576460752303423488) := ⟨_, rfl⟩
    rw [← hn]
    have hk : n.toNat ≤ 576460752303423488 := by omega
    obtain ⟨kp, hkp⟩ := rpad_eq n.toNat hk n (by unfold mx; split <;> omega)
    have P1 := Lib.hid fun W => digest_Pad.calls 9 n _ W (pad_eq n.toNat hk n (by unfold mx; split <;> omega))
    have P2 := Lib.hid fun W => umbelref04_Pad.calls kp n _ W hkp
    have O1 := Lib.hid fun W (g : Glob W) => of_c s (by have := HS.out; omega) W g
    have O2 := Lib.hid fun W => DgsA.rof_c s (by have := HS.out; omega) W
    have X1 := Lib.hid fun W => hex_c s (by have := HS.out; omega) W
    have X2 := Lib.hid fun W => umbelref04_Hex.calls (s.size + 1) s _ W (rhex s (by have := HS.out; omega))
    have B1 := Lib.hid fun W (g : Glob W) => block_c hs bs hl hh bl hb W g
    have B2 := Lib.hid fun W => DgsA.rblock_c hs bs hl hh bl hb W
    obtain ⟨d, hd⟩ : ∃ d, d = strOfNums (ofB (bytesOf s)) := ⟨_, rfl⟩
    obtain ⟨x, hx⟩ : ∃ d, d = strOfNums (hexB (bytesOf s)) := ⟨_, rfl⟩
    obtain ⟨p, hp⟩ : ∃ d, d = strOfNums (padB n.toNat) := ⟨_, rfl⟩
    obtain ⟨l, hll⟩ : ∃ l, l = blockL hs bs := ⟨_, rfl⟩
    have hl8 : l.length = 8 := by rw [hll]; exact blockL_len hs bs hl
    rw [← hd] at O1 O2
    rw [← hx] at X1 X2
    rw [← hp] at P1 P2
    rw [← hll] at B1 B2
    have heq := Lib.hid (eq_same l hl8)
    have HL := Lib.hid hl
    have BL := Lib.hid bl
    obtain ⟨B, hB⟩ : ∃ B, B = w.heap.size := ⟨_, rfl⟩
    have hbel : Below w.heap.size w (w.alloc (.cells A 26)) := below_alloc (Below.refl _ _) _
    have hsz2 : w.heap.size ≤ (w.alloc (.cells A 26)).heap.size := by simp
    have hBW : B < (w.alloc (.cells A 26)).heap.size := by simp [hB]
    rw [← hB] at hrh hrb
    rw [← hB]
    generalize World.alloc w _ = W1 at hrh hrb hbel hsz2 hBW ⊢
    have HRH := Lib.hid hrh
    have HRB := Lib.hid hrb
    have HSZ := Lib.hid hsz2
    have HBW := hBW
    clear hn hk hkp hd hx hp hll hl8 hl bl hh hb hrh hrb hrn hsz1 hsz2 hN2 hB
    have hev : ∀ W, (Op.equalIn 10000 23 (.agg (vals .u32 l)) (.agg (vals .u32 l))).run Tryd.prog W = .ok true W := heq.out
    refine wp_region_calm_lit W1 (by kernel_rfl) (by kernel_rfl) (Calm.refl W1) ?_
    repeat (first | (refine wpQuiet_step (fun K hK => ?_); refine qstep (N := some 35) (by rfl) rfl (.agg (vals .u32 hs)) (quiet_load_mid 23 (.tmp 34) rfl B 0 (vals .u32 hs).toList _ rfl (fun w' hw => range_below HRH.out hw.below HBW) Tryd.underlying23 rfl (by rw [Array.length_toList, vals_size, HL.out]; exact size_eight)) (hK _ ?_); clear hK K) | (refine wpQuiet_step (fun K hK => ?_); refine qstep (N := some 37) (by rfl) rfl (.agg (vals .u8 bs)) (quiet_load_mid 24 (.tmp 36) rfl B 8 (vals .u8 bs).toList _ rfl (fun w' hw => range_below HRB.out hw.below HBW) Tryd.underlying24 rfl (by rw [Array.length_toList, vals_size, BL.out]; exact size_bytes)) (hK _ ?_); clear hK K) | (refine wpQuiet_step (fun K hK => ?_); refine qstep (N := some 40) (by rfl) rfl (.agg (vals .u32 hs)) (quiet_load_mid 23 (.tmp 39) rfl B 0 (vals .u32 hs).toList _ rfl (fun w' hw => range_below HRH.out hw.below HBW) Tryd.underlying23 rfl (by rw [Array.length_toList, vals_size, HL.out]; exact size_eight)) (hK _ ?_); clear hK K) | (refine wpQuiet_step (fun K hK => ?_); refine qstep (N := some 42) (by rfl) rfl (.agg (vals .u8 bs)) (quiet_load_mid 24 (.tmp 41) rfl B 8 (vals .u8 bs).toList _ rfl (fun w' hw => range_below HRB.out hw.below HBW) Tryd.underlying24 rfl (by rw [Array.length_toList, vals_size, BL.out]; exact size_bytes)) (hK _ ?_); clear hK K) | go_big_quiet_step (fail) | (refine wpQuiet_step (fun K hK => ?_); go_simp; first | (refine hK _ ?_; clear hK K) | (refine ⟨_, fun _ _ => rfl, hK _ ?_⟩; clear hK K) | (apply Exists.intro; refine ⟨fun _ hc_ => ?_, hK _ ?_⟩; (first | exact Calm.call hc_ (O1.out _ (HG.out.below (hbel.trans (hc_.below.mono HSZ.out)))) | exact Calm.call hc_ (O2.out _) | exact Calm.call hc_ (X1.out _) | exact Calm.call hc_ (X2.out _) | exact Calm.call hc_ (P1.out _) | exact Calm.call hc_ (P2.out _) | exact Calm.call hc_ (B1.out _ (HG.out.below (hbel.trans (hc_.below.mono HSZ.out)))) | exact Calm.call hc_ (B2.out _) | exact Calm.call hc_ (WK.out _ (HG.out.below (hbel.trans (hc_.below.mono HSZ.out))))); clear hK K)))
    refine wpQuiet_nil ?_
    intro w7 hC7
    go_wp2
    go_ret
    exact ⟨rfl, hbel.trans (hC7.below.mono HSZ.out)⟩
  · have p0 : decide ((300 : Int) < (s.size : Int)) = true := decide_eq_true (by omega)
    clear hsz
    obtain ⟨A, hA⟩ : ∃ A, A = asked hs bs N := ⟨_, rfl⟩
    rw [← hA]
    clear hA
    go_enter Tryd.func3, Tryd.ntmps3
    go_wp2_with fail
    refine (WK.out _ (HG.out.below (below_alloc (Below.refl _ _) _))).mono ?_
    rintro e w1 ⟨rfl, hB1⟩
    go_wp2_with fail
    go_ret
    exact ⟨rfl, (below_alloc (Below.refl _ _) _).trans (hB1.mono (by simp))⟩
end Go.Proofs.YtbphehijikdkjaaDoor.DgsF
