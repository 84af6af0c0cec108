import Derived.Test.YtbmhfmkfkdbmdaaProg
import Derived.Below
import Derived.Deep.Draws
import Derived.Deep.AppendLies
import Derived.Maps.AppendAt
import Derived.OwnWalk
import Derived.Laws.BytesArg
import Derived.Laws.MakeOwn
import Derived.Laws.OwnMore
import Derived.Deep.OwnRows
import Derived.Tactics
import Derived.Lib.ConvBytes
import Derived.Laws.Slices
import Derived.WalkKit
import Derived.KernelRfl
import Derived.RowKit3
import Derived.Deep.LoopGhost
import Derived.Deep.QuietTactic
import Derived.BigQuiet
import Derived.WideLaws
import Derived.Deep.DeepCutAuto
import Derived.Deep.CutBlock
import Derived.Deep.RegionHeld3
import Derived.Laws.Rows
import Derived.Lib.AppendStr
import Derived.ArgAppend
import Derived.Laws.IdiomCopy
import Derived.OrdersHeld
import Derived.Laws.BitsLemmas
import Derived.RowKit
import Derived.Test.YtbmhfmkfkdbmdaaWWords
import Derived.Test.YtbmhfmkfkdbmdaaWMore
import Derived.Test.YtbmhfmkfkdbmdaaWGuard
import Derived.Test.YtbmhfmkfkdbmdaaCalm
import Derived.Lib.OwnKind
import Derived.OneCell
import Derived.Lib.Hide
import Derived.Deep.Onto
section
-- Written by a program of this session for this seat. Not trusted: Lean checks it.
namespace Go.Proofs.Ytbmhfmkfkdbmdaa.PDsk
open Go.RowKit Go.Proofs.YtbmhfmkfkdbmdaaW.PrintWords Go.Proofs.YtbmhfmkfkdbmdaaW.PrintLast Go.Proofs.YtbmhfmkfkdbmdaaW.PrintMore
attribute [local go_sem] max2_int min2_int max_two min_two max_three min_three max_four min_four   -- for this text's walks alone
set_option linter.unusedVariables false
set_option linter.unusedSimpArgs false
open Go.Proofs.Ytbmhfmkfkdbmdaa.HW



def errW : Option Int → Value
  | none => .nilIface
  | some c => .iface 0 (.int .i64 c)
theorem errW_none : errW none = .nilIface := rfl
theorem errW_some (c : Int) : errW (some c) = .iface 0 (.int .i64 c) := rfl

theorem info5 : (Try.prog.info? 5).map (fun i => (i.zero, i.size, i.bytes)) = some (some (.int .u8 0), 1, 1) := by kernel_rfl
-- the values' own types
/-! #### struct type 76 -/
structure S76 where
  f0 : Int
  f1 : ByteArray
def z76 : S76 := ⟨(0 : Int), (⟨#[]⟩ : ByteArray)⟩
def k76 : Kd S76 := Kd.iso (Kd.pair (Kd.int .i64) Kd.string) (fun x : S76 => (x.f0, x.f1))
end Go.Proofs.Ytbmhfmkfkdbmdaa.PDsk
end

section
-- Written by a program of this session for this seat. Not trusted: Lean checks it.
namespace Go.Proofs.Ytbmhfmkfkdbmdaa.PDsk
open Go.RowKit Go.Proofs.YtbmhfmkfkdbmdaaW.PrintWords Go.Proofs.YtbmhfmkfkdbmdaaW.PrintLast Go.Proofs.YtbmhfmkfkdbmdaaW.PrintMore
attribute [local go_sem] max2_int min2_int max_two min_two max_three min_three max_four min_four   -- for this text's walks alone
set_option linter.unusedVariables false
set_option linter.unusedSimpArgs false
open Go.Proofs.Ytbmhfmkfkdbmdaa.HW

theorem eqA76 (d : Nat) (w : World) (x0 y0 : Int) (x1 y1 : ByteArray) :
    (Op.equalIn (d + 2) 76 (.agg #[.int .i64 x0, .string x1]) (.agg #[.int .i64 y0, .string y1])).run Try.prog w = .ok (x0 == y0 && (x1.toList == y1.toList)) w := by
  refine eqA_of Try.underlying76 (by kernel_rfl) ?_
  refine eqf_cons (by rfl) (by go_simp; rfl) (by go_simp; rfl) (by go_simp) ?_
  exact eqf_last (by rfl) (by go_simp; rfl) (by go_simp; rfl) (by go_simp)
end Go.Proofs.Ytbmhfmkfkdbmdaa.PDsk
end

section
-- Written by a program of this session for this seat. Not trusted: Lean checks it.
namespace Go.Proofs.Ytbmhfmkfkdbmdaa.PDsk
open Go.RowKit Go.Proofs.YtbmhfmkfkdbmdaaW.PrintWords Go.Proofs.YtbmhfmkfkdbmdaaW.PrintLast Go.Proofs.YtbmhfmkfkdbmdaaW.PrintMore
attribute [local go_sem] max2_int min2_int max_two min_two max_three min_three max_four min_four   -- for this text's walks alone
set_option linter.unusedVariables false
set_option linter.unusedSimpArgs false
open Go.Proofs.Ytbmhfmkfkdbmdaa.HW

-- NOT PRINTED: function 63 (slices_IndexFunc_string_string)

-- NOT PRINTED: function 47 (slices_ContainsFunc_string_string)

-- NOT PRINTED: function 49 (slices_Clone_string_string)

-- NOT PRINTED: function 21 (disk_From)

-- NOT PRINTED: function 11 (disk_New)

-- NOT PRINTED: function 38 (disk_Disk_acts)

-- NOT PRINTED: function 12 (disk_Disk_Grow)

/-- A state of type 71 at block g of W; what its slices lead to came in by w0. -/
def IsS71 (w0 W : World) (g : Nat) (f0 : List ByteArray) (f1 : List (S76)) (f2 : Int) (f3 : Int) (f4 : Bool) : Prop := ∃ A0 c0, ∃ A1 c1, W.heap[g]? = some (.cells #[.slice A0 f0.length c0, .slice A1 f1.length c1, .int .i64 f2, .int .i64 f3, .bool f4] 71 (0, 0)) ∧ w0.heap.size ≤ g ∧ Kd.C Kd.string w0 A0 f0.length f0 ∧ Kd.C k76 w0 A1 f1.length f1
theorem IsS71.grown {w0 W : World} {g : Nat} {f0 : List ByteArray} {f1 : List (S76)} {f2 : Int} {f3 : Int} {f4 : Bool} {W1 : World} {row : Option Nat} (h : IsS71 w0 W g f0 f1 f2 f3 f4) (hw : W.grownBy W1 row) (hne : some g ≠ row) : IsS71 w0 W1 g f0 f1 f2 f3 f4 := by
  obtain ⟨A0, c0, A1, c1, hb, hg, hr0, hr1⟩ := h
  exact ⟨A0, c0, A1, c1, blk_grown hb hw hne, hg, hr0, hr1⟩
theorem IsS71.kept {w0 W : World} {g : Nat} {f0 : List ByteArray} {f1 : List (S76)} {f2 : Int} {f3 : Int} {f4 : Bool} {W1 : World} {S : Nat → Prop} (h : IsS71 w0 W g f0 f1 f2 f3 f4) (hk : Kept W W1 S) (hne : ¬ S g) : IsS71 w0 W1 g f0 f1 f2 f3 f4 := by
  obtain ⟨A0, c0, A1, c1, hb, hg, hr0, hr1⟩ := h
  exact ⟨A0, c0, A1, c1, blk_kept hb hk hne, hg, hr0, hr1⟩
theorem IsS71.below {w0 W : World} {g : Nat} {f0 : List ByteArray} {f1 : List (S76)} {f2 : Int} {f3 : Int} {f4 : Bool} {W1 : World} (h : IsS71 w0 W g f0 f1 f2 f3 f4) (hw : Below W.heap.size W W1) : IsS71 w0 W1 g f0 f1 f2 f3 f4 := h.grown (grown_of_below hw none) (by simp)
theorem IsS71.alloc {w0 W : World} {g : Nat} {f0 : List ByteArray} {f1 : List (S76)} {f2 : Int} {f3 : Int} {f4 : Bool} (h : IsS71 w0 W g f0 f1 f2 f3 f4) (o : Obj) : IsS71 w0 (W.alloc o) g f0 f1 f2 f3 f4 := h.below (below_alloc (Below.refl _ _) o)
theorem IsS71.drewN {w0 W : World} {g : Nat} {f0 : List ByteArray} {f1 : List (S76)} {f2 : Int} {f3 : Int} {f4 : Bool} (h : IsS71 w0 W g f0 f1 f2 f3 f4) (m : Nat) : IsS71 w0 (W.drewN m) g f0 f1 f2 f3 f4 := h
theorem IsS71.drew {w0 W : World} {g : Nat} {f0 : List ByteArray} {f1 : List (S76)} {f2 : Int} {f3 : Int} {f4 : Bool} (h : IsS71 w0 W g f0 f1 f2 f3 f4) : IsS71 w0 W.drew g f0 f1 f2 f3 f4 := h
theorem IsS71.at_ {w0 W : World} {g : Nat} {f0 : List ByteArray} {f1 : List (S76)} {f2 : Int} {f3 : Int} {f4 : Bool} {w' : World} {m : Nat} (hq : W.drewN m = w') (h : IsS71 w0 W g f0 f1 f2 f3 f4) : IsS71 w0 w' g f0 f1 f2 f3 f4 := by subst hq; exact IsS71.drewN h m
theorem IsS71.apart {w0 W : World} {g : Nat} {f0 : List ByteArray} {f1 : List (S76)} {f2 : Int} {f3 : Int} {f4 : Bool} {α : Type} {d : Kd α} {e : Nat} {base : Nat} {ok : Nat → Prop} {v : Value} {xs : List α} (h : IsS71 w0 W g f0 f1 f2 f3 f4) (ho : d.R e W base ok v xs) (ht : ∀ q, q ∈ e :: d.E → q ≠ 71) : d.R e W base (fun k => ok k ∧ k ≠ g) v xs := by
  obtain ⟨A0, c0, A1, c1, hb, hg, hr0, hr1⟩ := h
  exact Kd.R_types ho hb ht
theorem IsS71.lt {w0 W : World} {g : Nat} {f0 : List ByteArray} {f1 : List (S76)} {f2 : Int} {f3 : Int} {f4 : Bool} (h : IsS71 w0 W g f0 f1 f2 f3 f4) : g < W.heap.size := by
  obtain ⟨A0, c0, A1, c1, hb, hg, hr0, hr1⟩ := h
  exact blk_lt hb
theorem IsS71.ge {w0 W : World} {g : Nat} {f0 : List ByteArray} {f1 : List (S76)} {f2 : Int} {f3 : Int} {f4 : Bool} (h : IsS71 w0 W g f0 f1 f2 f3 f4) : w0.heap.size ≤ g := by
  obtain ⟨A0, c0, A1, c1, hb, hg, hr0, hr1⟩ := h
  exact hg
/-! ### disk_Disk_there: function 41 -/
-- NOT PRINTED: function 13 (disk_Disk_Write)

/-! ### umbellaw06_Fill: function 14 -/
def umbellaw06_Fill.l0 : Nat → Int → List Int → Int → Option (ByteArray)
  | 0, _, _, _ => none
  | k + 1, x0, x3, x4 => if x4 < (x3.length : Int) then (if 0 ≤ x4 then (umbellaw06_Fill.l0 k x0 (x3.set (x4 : Int).toNat x0) (wrap64 (x4 + 1))) else (none)) else (some (strOfNums x3))
def umbellaw06_Fill.f (k : Nat) (a0 : Int) : Option (ByteArray) := if 256 ≤ 281474976710656 then (umbellaw06_Fill.l0 k a0 (List.replicate 256 0) 0) else (none)
set_option maxHeartbeats 8000000 in
set_option maxRecDepth 100000 in
theorem umbellaw06_Fill.calls (k : Nat) (a0 : Int) (r : ByteArray) (w : World) (h : umbellaw06_Fill.f k a0 = some r) :
    Calls Try.prog 14 #[.int .u8 a0] w fun e w' => e = .returned (.string r) ∧ Below w.heap.size w w' := by
  have HB := Aside0.mk (Below.refl w.heap.size w)
  have H : (if 256 ≤ 281474976710656 then (umbellaw06_Fill.l0 k a0 (List.replicate 256 0) 0) else (none)) = some r := h
  clear h
  by_cases c2 : 256 ≤ 281474976710656
  · rw [if_pos c2] at H
    have c2b0 := eq_true c2
    have c2b1 : decide (256 ≤ 281474976710656) = true := decide_eq_true c2
    clear c2
    obtain ⟨y101, hy101⟩ : ∃ y_ : List Int, y_ = (List.replicate 256 0) := ⟨_, rfl⟩
    replace H : (umbellaw06_Fill.l0 k a0 y101 0) = some r := by first | (rw [hy101]; with_reducible exact H) | (have H2_ := (Option.bind_some _ _).symm.trans H; rw [hy101]; with_reducible exact H2_) | (have H2_ := (Option.bind_some _ _).symm.trans H; with_reducible exact H2_) | with_reducible exact H | (rw [hy101]; exact H) | exact H
    have Ny101 := Aside0.mk hy101
    clear hy101
    have H' := Aside0.mk H
    clear H
    go_enter Try.func14, Try.ntmps14
    go_wp2_with (first | ((with_reducible refine gate_dst (N := 5) rfl ?_); refine Kd.R_make (Kd.int .u8) _ 5 rfl (N := 5) rfl 23 _ _ rfl 256 rfl rfl Try.underlying23 (.int .u8 0) 1 info5 rfl (by decide) (by omega) 0 (ok := fun _ => True) (okp := fun _ => True) rfl (fun _ hk => hk) trivial (by omega) (by omega) (Below.refl _ _) (Nat.le_refl _) ?_; intro v102 w3 ho4 hb hg_ hnew_; clear hg_ hnew_; (first | rw [← Ny101.out] at ho4 | (simp only [Int.reduceToNat] at ho4; rw [← Ny101.out] at ho4)); have n0_ := Aside0.mk (Kd.R_lower ho4 (below_size (by repeat (first | (with_reducible first | exact HB.out | apply below_alloc | apply pw_below_drewN | apply below_drew1) | exact HB.out)))); have n1_ := Aside0.mk (below_step (by repeat (first | (with_reducible first | exact HB.out | apply below_alloc | apply pw_below_drewN | apply below_drew1) | exact HB.out)) hb); clear HB; have HO103 := n0_; have HB := n1_; clear n0_ n1_; clear hb ho4))
    go_loopg [4] k (fun kq v4 w' => ∃ (x3_1 : List Int) (x4_1 : Int), v4 = .int .i64 x4_1 ∧ Aside0 (umbellaw06_Fill.l0 kq a0 x3_1 x4_1 = some r) ∧ Aside0 (kq ≤ k) ∧ Aside0 (Kd.R (Kd.int .u8) 5 w' w.heap.size (fun _ => True) v102 x3_1) ∧ Aside0 (Below w.heap.size w w'))
    case atStart => exact ⟨(y101), (0), (by first | rfl | (simp; done) | (simp [*]; done)), H', ⟨Nat.le_refl _⟩, ⟨by (with_reducible repeat (first | apply Kd.R_alloc | apply Kd.R_drewN | apply Kd.R_drew)); exact HO103.out⟩, ⟨by repeat (first | (with_reducible first | exact HB.out | apply below_alloc | apply pw_below_drewN | apply below_drew1) | exact HB.out)⟩⟩
    case round =>
      clear H'
      try clear c1
      try clear c2
      try clear c2b0
      try clear c2b1
      try clear p2
      obtain ⟨x3_1, x4_1, rfl, HA, HK1, HO_3, HB⟩ := hrel
      cases gk with
      | zero => exact absurd HA.out (by simp [umbellaw06_Fill.l0])
      | succ k1 =>
        have H := HA.out
        clear HA
        simp only [umbellaw06_Fill.l0] at H
        by_cases c5 : x4_1 < (x3_1.length : Int)
        · rw [if_pos c5] at H
          have c5b0 : decide (x4_1 < (x3_1.length : Int)) = true := decide_eq_true c5
          clear c5
          by_cases c6 : 0 ≤ x4_1
          · rw [if_pos c6] at H
            have c6b0 : decide (0 ≤ x4_1) = true := decide_eq_true c6
            clear c6
            obtain ⟨y104, hy104⟩ : ∃ y_ : List Int, y_ = (x3_1.set (x4_1 : Int).toNat a0) := ⟨_, rfl⟩
            replace H : (umbellaw06_Fill.l0 k1 a0 y104 (wrap64 (x4_1 + 1))) = some r := by first | (rw [hy104]; with_reducible exact H) | (have H2_ := (Option.bind_some _ _).symm.trans H; rw [hy104]; with_reducible exact H2_) | (have H2_ := (Option.bind_some _ _).symm.trans H; with_reducible exact H2_) | with_reducible exact H | (rw [hy104]; exact H) | exact H
            have Ny104 := Aside0.mk hy104
            clear hy104
            have H' := Aside0.mk H
            clear H
            obtain ⟨Ao8, co8, eo8⟩ := Kd.R_slice HO_3.out
            subst eo8
            have p7 : 0 ≤ (x4_1 : Int) := of_decide_eq_true (by first | (with_reducible assumption) | assumption)
            have q7 : (x4_1 : Int) < ((x3_1.length : Int) : Int) := of_decide_eq_true (by first | (with_reducible assumption) | assumption)
            obtain ⟨go7, co7, eo7, gb7, gl7, cl7, HG7⟩ := Kd.R_form HO_3.out (by omega)
            (first | cases eo7 | (injection eo7 with ea_ en_ ec_; (first | subst ea_ | (injection ea_ with ea_; subst ea_)); subst ec_; clear en_))
            have GB7 := Aside0.mk gb7
            have GG7 := Aside0.mk HG7
            clear gb7 gl7 HG7
            obtain ⟨hx7_0, hf7_0⟩ := Kd.R_celln 0 HO_3.out (x4_1 : Int) p7 q7
            replace p7 := eq_true p7
            replace q7 := eq_true q7
            have HP9 := Kd.R_putg HO_3.out (x4_1 : Int) a0
            go_wp2_with (first | ((with_reducible refine gate_store (t := 5) (p := 15) rfl ?_); refine store_event (t := 5) (p := 15) (v := ?vo_w10) (w1 := (wr.setCell ⟨go7, (x4_1 : Int).toNat, none⟩ (.int .u8 a0))) ?hg ?ho ?hn ?hr ?_; (case ho => rfl); (case hg => rfl); (case hn => rfl); (case hr => first | (go_simp; done) | (go_simp; rfl)); intro w10 hw; have hg : wr.grownBy w10 (some go7) := (by rw [hw]; exact HP9.2); have hp_ : Kd.R (Kd.int .u8) 5 w10 w.heap.size (fun _ => True) (.slice (some ⟨go7, 0, none⟩) x3_1.length co8) y104 := (by rw [hw, Ny104.out]; exact HP9.1); clear HP9; have n0_ := Aside0.mk (hp_); have n1_ := Aside0.mk ((by rw [hw]; exact below_set (HB.out) GB7.out : Below w.heap.size w w10)); clear HO_3; clear HB; have HO_3 := n0_; have HB := n1_; clear n0_ n1_; clear hg hw hp_))
            go_roundg k1
            case measure => have := HK1.out; omega
            case rel => exact ⟨(y104), (wrap64 (x4_1 + 1)), (by first | rfl | (simp; done) | (simp [*]; done)), H', ⟨by have := HK1.out; omega⟩, ⟨by (with_reducible repeat (first | apply Kd.R_alloc | apply Kd.R_drewN | apply Kd.R_drew)); exact HO_3.out⟩, ⟨by repeat (first | (with_reducible first | exact HB.out | apply below_alloc | apply pw_below_drewN | apply below_drew1) | exact HB.out)⟩⟩
          · rw [if_neg c6] at H
            exact absurd H (by simp)
        · rw [if_neg c5] at H
          have c5b0 : decide (x4_1 < (x3_1.length : Int)) = false := decide_eq_false c5
          clear c5
          obtain rfl := Option.some.inj H
          obtain ⟨Ao11, co11, eo11⟩ := Kd.R_slice HO_3.out
          subst eo11
          have hcv12 := own_string (P := Try.prog) Try.underlying23 Try.underlying5 Try.underlying9 (Kd.own_of_R HO_3.out)
          go_wp2
          go_ret
          exact ⟨by first | rfl | (simp [errW_none, errW_some] <;> rfl) | (simp [*, errW_none, errW_some] <;> rfl), by repeat (first | (with_reducible first | exact HB.out | apply below_alloc | apply pw_below_drewN | apply below_drew1) | exact HB.out)⟩
  · rw [if_neg c2] at H
    exact absurd H (by simp)

-- NOT PRINTED: function 15 (disk_Disk_Sync)

-- NOT PRINTED: function 71 (abi_NoEscape)

-- NOT PRINTED: function 68 (strings_Builder_copyCheck)

-- NOT PRINTED: function 72 (bytealg_MakeNoZero)

-- NOT PRINTED: function 69 (strings_Builder_grow)

-- NOT PRINTED: function 57 (strings_Builder_Grow)

-- NOT PRINTED: function 58 (strings_Builder_WriteString)

-- NOT PRINTED: function 60 (strings_Builder_String)

-- NOT PRINTED: function 61 (strings_Join)

-- NOT PRINTED: function 44 (disk_torn)

-- NOT PRINTED: function 16 (disk_Disk_Crash)

-- NOT PRINTED: function 62 (api_Write_62)

-- NOT PRINTED: function 45 (disk_Disk_data)

-- NOT PRINTED: function 17 (disk_Disk_Read)

-- NOT PRINTED: function 18 (disk_Disk_Fuse)

-- NOT PRINTED: function 46 (api_Write_46)

-- NOT PRINTED: function 19 (disk_Disk_Waiting)

-- NOT PRINTED: function 25 (disk_Disk_Limit)

-- NOT PRINTED: function 26 (disk_Disk_Length)

-- NOT PRINTED: function 10 (umbellaw06_wakes)

-- NOT PRINTED: function 24 (disk_Disk_Pages)

-- NOT PRINTED: function 32 (disk_Disk_Shrink)

-- NOT PRINTED: function 9 (umbellaw06_DiskNone)

-- NOT PRINTED: function 4 (umbellaw06_DiskFuses)

-- NOT PRINTED: function 5 (umbellaw06_DiskLast)

-- NOT PRINTED: function 3 (umbellaw06_DiskSurvives)

/-! ### umbelkeep_Texts: function 23 -/
def umbelkeep_Texts.l0 : Nat → List ByteArray → List ByteArray → Int → Option (Bool)
  | 0, _, _, _ => none
  | k + 1, x0, x1, x5 => if x5 < (x0.length : Int) then (if 0 ≤ x5 then (if x5 < (x1.length : Int) then (if (rdOf ByteArray.empty x0 x5).toList = (rdOf ByteArray.empty x1 x5).toList then (umbelkeep_Texts.l0 k x0 x1 (wrap64 (x5 + 1))) else (some false)) else (none)) else (none)) else (some true)
def umbelkeep_Texts.f (k : Nat) (l0 : List ByteArray) (l1 : List ByteArray) : Option (Bool) := if (l0.length : Int) = (l1.length : Int) then (umbelkeep_Texts.l0 k l0 l1 0) else (some false)
set_option maxHeartbeats 8000000 in
set_option maxRecDepth 100000 in
theorem umbelkeep_Texts.calls (k : Nat) (A0 : Option Addr) (c0 : Nat) (l0 : List ByteArray) (A1 : Option Addr) (c1 : Nat) (l1 : List ByteArray) (r : Bool) (w : World) (hr0 : Kd.C Kd.string w A0 l0.length l0) (hc0 : l0.length ≤ c0) (hr1 : Kd.C Kd.string w A1 l1.length l1) (hc1 : l1.length ≤ c1) (h : umbelkeep_Texts.f k l0 l1 = some r) :
    Calls Try.prog 23 #[.slice A0 l0.length c0, .slice A1 l1.length c1] w fun e w' => e = .returned (.bool r) ∧ Drawn0 w w' := by
  have HR0 := Aside0.mk hr0
  have HC0 := Aside0.mk hc0
  clear hr0 hc0
  have HR1 := Aside0.mk hr1
  have HC1 := Aside0.mk hc1
  clear hr1 hc1
  have H : (if (l0.length : Int) = (l1.length : Int) then (umbelkeep_Texts.l0 k l0 l1 0) else (some false)) = some r := h
  clear h
  by_cases c3 : (l0.length : Int) = (l1.length : Int)
  · rw [if_pos c3] at H
    have c3b0 : ((l0.length : Int) == (l1.length : Int)) = true := beq_iff_eq.mpr c3
    have c3b1 : ((l0.length : Int) != (l1.length : Int)) = false := bne_eq_false_iff_eq.mpr c3
    have c3b2 : (l0.length == l1.length) = true := by first | simpa using c3 | (simp at c3 ⊢; omega)
    clear c3
    have H' := Aside0.mk H
    clear H
    go_enter Try.func23, Try.ntmps23
    go_wp2
    repeat (go_quiet (fail); try go_wp2)
    go_loopg [5] k (fun kq v5 w' => ∃ (x5_1 : Int), v5 = .int .i64 x5_1 ∧ Aside0 (umbelkeep_Texts.l0 kq l0 l1 x5_1 = some r) ∧ Aside0 (kq ≤ k) ∧ Drawn0 w w')
    case atStart => exact ⟨(0), (by first | rfl | (simp; done) | (simp [*]; done)), H', ⟨Nat.le_refl _⟩, by repeat (first | exact Drawn0.refl _ | apply Drawn0.step)⟩
    case round =>
      clear H'
      try clear c1
      try clear c2
      try clear p2
      try clear c3
      try clear c3b0
      try clear c3b1
      try clear c3b2
      obtain ⟨x5_1, rfl, HA, HK1, ⟨m1, rfl⟩⟩ := hrel
      cases gk with
      | zero => exact absurd HA.out (by simp [umbelkeep_Texts.l0])
      | succ k1 =>
        have H := HA.out
        clear HA
        simp only [umbelkeep_Texts.l0] at H
        by_cases c4 : x5_1 < (l0.length : Int)
        · rw [if_pos c4] at H
          have c4b0 : decide (x5_1 < (l0.length : Int)) = true := decide_eq_true c4
          clear c4
          by_cases c5 : 0 ≤ x5_1
          · rw [if_pos c5] at H
            have c5b0 : decide (0 ≤ x5_1) = true := decide_eq_true c5
            clear c5
            by_cases c6 : x5_1 < (l1.length : Int)
            · rw [if_pos c6] at H
              have c6b0 : decide (x5_1 < (l1.length : Int)) = true := decide_eq_true c6
              clear c6
              by_cases c7 : (rdOf ByteArray.empty l0 x5_1).toList = (rdOf ByteArray.empty l1 x5_1).toList
              · rw [if_pos c7] at H
                have c7b0 : ((rdOf ByteArray.empty l0 x5_1).toList == (rdOf ByteArray.empty l1 x5_1).toList) = true := beq_iff_eq.mpr c7
                have c7b1 : ((rdOf ByteArray.empty l0 x5_1).toList != (rdOf ByteArray.empty l1 x5_1).toList) = false := bne_eq_false_iff_eq.mpr c7
                clear c7
                have H' := Aside0.mk H
                clear H
                have p107 : 0 ≤ (x5_1 : Int) := of_decide_eq_true (by first | (with_reducible assumption) | assumption)
                have q107 : x5_1 < (l0.length : Int) := of_decide_eq_true (by first | (with_reducible assumption) | assumption)
                obtain ⟨ad107, e107, hx107_0⟩ := Kd.at_string HR0.out x5_1 p107 q107
                cases e107
                replace p107 := eq_true p107
                replace q107 := eq_true q107
                have p108 : 0 ≤ (x5_1 : Int) := of_decide_eq_true (by first | (with_reducible assumption) | assumption)
                have q108 : x5_1 < (l1.length : Int) := of_decide_eq_true (by first | (with_reducible assumption) | assumption)
                obtain ⟨ad108, e108, hx108_0⟩ := Kd.at_string HR1.out x5_1 p108 q108
                cases e108
                replace p108 := eq_true p108
                replace q108 := eq_true q108
                go_wp2
                repeat (go_quiet (fail); try go_wp2)
                go_roundg k1
                case measure => have := HK1.out; omega
                case rel => exact ⟨(wrap64 (x5_1 + 1)), (by first | rfl | (simp; done) | (simp [*]; done)), H', ⟨by have := HK1.out; omega⟩, by repeat (first | exact Drawn0.refl _ | apply Drawn0.step)⟩
              · rw [if_neg c7] at H
                have c7b0 : ((rdOf ByteArray.empty l0 x5_1).toList == (rdOf ByteArray.empty l1 x5_1).toList) = false := beq_eq_false_iff_ne.mpr c7
                have c7b1 : ((rdOf ByteArray.empty l0 x5_1).toList != (rdOf ByteArray.empty l1 x5_1).toList) = true := bne_iff_ne.mpr c7
                obtain rfl := Option.some.inj H
                have p107 : 0 ≤ (x5_1 : Int) := of_decide_eq_true (by first | (with_reducible assumption) | assumption)
                have q107 : x5_1 < (l0.length : Int) := of_decide_eq_true (by first | (with_reducible assumption) | assumption)
                obtain ⟨ad107, e107, hx107_0⟩ := Kd.at_string HR0.out x5_1 p107 q107
                cases e107
                replace p107 := eq_true p107
                replace q107 := eq_true q107
                have p108 : 0 ≤ (x5_1 : Int) := of_decide_eq_true (by first | (with_reducible assumption) | assumption)
                have q108 : x5_1 < (l1.length : Int) := of_decide_eq_true (by first | (with_reducible assumption) | assumption)
                obtain ⟨ad108, e108, hx108_0⟩ := Kd.at_string HR1.out x5_1 p108 q108
                cases e108
                replace p108 := eq_true p108
                replace q108 := eq_true q108
                go_wp2
                repeat (go_quiet (fail); try go_wp2)
                go_ret
                exact ⟨by first | rfl | (simp; done) | (simp [*]; done), by repeat (first | exact Drawn0.refl _ | apply Drawn0.step)⟩
            · rw [if_neg c6] at H
              exact absurd H (by simp)
          · rw [if_neg c5] at H
            exact absurd H (by simp)
        · rw [if_neg c4] at H
          have c4b0 : decide (x5_1 < (l0.length : Int)) = false := decide_eq_false c4
          clear c4
          obtain rfl := Option.some.inj H
          go_wp2
          repeat (go_quiet (fail); try go_wp2)
          go_ret
          exact ⟨by first | rfl | (simp; done) | (simp [*]; done), by repeat (first | exact Drawn0.refl _ | apply Drawn0.step)⟩
  · rw [if_neg c3] at H
    have c3b0 : ((l0.length : Int) == (l1.length : Int)) = false := beq_eq_false_iff_ne.mpr c3
    have c3b1 : ((l0.length : Int) != (l1.length : Int)) = true := bne_iff_ne.mpr c3
    have c3b2 : (l0.length == l1.length) = false := by first | simpa using c3 | (simp at c3 ⊢; omega)
    obtain rfl := Option.some.inj H
    go_enter Try.func23, Try.ntmps23
    go_wp2
    repeat (go_quiet (fail); try go_wp2)
    go_ret
    exact ⟨by first | rfl | (simp; done) | (simp [*]; done), by repeat (first | exact Drawn0.refl _ | apply Drawn0.step)⟩

-- NOT PRINTED: function 27 (umbelref06_New)

/-- A state of type 66 at block g of W; what its slices lead to came in by w0. -/
def IsS66 (w0 W : World) (g : Nat) (f0 : Int) (f1 : List ByteArray) (f2 : List (S76)) (f3 : Int) (f4 : Bool) : Prop := ∃ A1 c1, ∃ A2 c2, W.heap[g]? = some (.cells #[.int .i64 f0, .slice A1 f1.length c1, .slice A2 f2.length c2, .int .i64 f3, .bool f4] 66 (0, 0)) ∧ w0.heap.size ≤ g ∧ Kd.C Kd.string w0 A1 f1.length f1 ∧ Kd.C k76 w0 A2 f2.length f2
theorem IsS66.grown {w0 W : World} {g : Nat} {f0 : Int} {f1 : List ByteArray} {f2 : List (S76)} {f3 : Int} {f4 : Bool} {W1 : World} {row : Option Nat} (h : IsS66 w0 W g f0 f1 f2 f3 f4) (hw : W.grownBy W1 row) (hne : some g ≠ row) : IsS66 w0 W1 g f0 f1 f2 f3 f4 := by
  obtain ⟨A1, c1, A2, c2, hb, hg, hr1, hr2⟩ := h
  exact ⟨A1, c1, A2, c2, blk_grown hb hw hne, hg, hr1, hr2⟩
theorem IsS66.kept {w0 W : World} {g : Nat} {f0 : Int} {f1 : List ByteArray} {f2 : List (S76)} {f3 : Int} {f4 : Bool} {W1 : World} {S : Nat → Prop} (h : IsS66 w0 W g f0 f1 f2 f3 f4) (hk : Kept W W1 S) (hne : ¬ S g) : IsS66 w0 W1 g f0 f1 f2 f3 f4 := by
  obtain ⟨A1, c1, A2, c2, hb, hg, hr1, hr2⟩ := h
  exact ⟨A1, c1, A2, c2, blk_kept hb hk hne, hg, hr1, hr2⟩
theorem IsS66.below {w0 W : World} {g : Nat} {f0 : Int} {f1 : List ByteArray} {f2 : List (S76)} {f3 : Int} {f4 : Bool} {W1 : World} (h : IsS66 w0 W g f0 f1 f2 f3 f4) (hw : Below W.heap.size W W1) : IsS66 w0 W1 g f0 f1 f2 f3 f4 := h.grown (grown_of_below hw none) (by simp)
theorem IsS66.alloc {w0 W : World} {g : Nat} {f0 : Int} {f1 : List ByteArray} {f2 : List (S76)} {f3 : Int} {f4 : Bool} (h : IsS66 w0 W g f0 f1 f2 f3 f4) (o : Obj) : IsS66 w0 (W.alloc o) g f0 f1 f2 f3 f4 := h.below (below_alloc (Below.refl _ _) o)
theorem IsS66.drewN {w0 W : World} {g : Nat} {f0 : Int} {f1 : List ByteArray} {f2 : List (S76)} {f3 : Int} {f4 : Bool} (h : IsS66 w0 W g f0 f1 f2 f3 f4) (m : Nat) : IsS66 w0 (W.drewN m) g f0 f1 f2 f3 f4 := h
theorem IsS66.drew {w0 W : World} {g : Nat} {f0 : Int} {f1 : List ByteArray} {f2 : List (S76)} {f3 : Int} {f4 : Bool} (h : IsS66 w0 W g f0 f1 f2 f3 f4) : IsS66 w0 W.drew g f0 f1 f2 f3 f4 := h
theorem IsS66.at_ {w0 W : World} {g : Nat} {f0 : Int} {f1 : List ByteArray} {f2 : List (S76)} {f3 : Int} {f4 : Bool} {w' : World} {m : Nat} (hq : W.drewN m = w') (h : IsS66 w0 W g f0 f1 f2 f3 f4) : IsS66 w0 w' g f0 f1 f2 f3 f4 := by subst hq; exact IsS66.drewN h m
theorem IsS66.apart {w0 W : World} {g : Nat} {f0 : Int} {f1 : List ByteArray} {f2 : List (S76)} {f3 : Int} {f4 : Bool} {α : Type} {d : Kd α} {e : Nat} {base : Nat} {ok : Nat → Prop} {v : Value} {xs : List α} (h : IsS66 w0 W g f0 f1 f2 f3 f4) (ho : d.R e W base ok v xs) (ht : ∀ q, q ∈ e :: d.E → q ≠ 66) : d.R e W base (fun k => ok k ∧ k ≠ g) v xs := by
  obtain ⟨A1, c1, A2, c2, hb, hg, hr1, hr2⟩ := h
  exact Kd.R_types ho hb ht
theorem IsS66.lt {w0 W : World} {g : Nat} {f0 : Int} {f1 : List ByteArray} {f2 : List (S76)} {f3 : Int} {f4 : Bool} (h : IsS66 w0 W g f0 f1 f2 f3 f4) : g < W.heap.size := by
  obtain ⟨A1, c1, A2, c2, hb, hg, hr1, hr2⟩ := h
  exact blk_lt hb
theorem IsS66.ge {w0 W : World} {g : Nat} {f0 : Int} {f1 : List ByteArray} {f2 : List (S76)} {f3 : Int} {f4 : Bool} (h : IsS66 w0 W g f0 f1 f2 f3 f4) : w0.heap.size ≤ g := by
  obtain ⟨A1, c1, A2, c2, hb, hg, hr1, hr2⟩ := h
  exact hg
/-! ### umbelref06_Disk_act: function 50 -/
-- NOT PRINTED: function 28 (umbelref06_Disk_Write)

/-! ### umbelref06_Disk_at: function 51 -/
/-! ### umbelref06_Disk_Read: function 29 -/
-- NOT PRINTED: function 30 (umbelref06_Disk_Sync)

-- NOT PRINTED: function 31 (umbelref06_Disk_Grow)

-- NOT PRINTED: function 33 (umbelref06_Disk_Shrink)

end Go.Proofs.Ytbmhfmkfkdbmdaa.PDsk
end

section
-- Written by a program of this session for this seat. Not trusted: Lean checks it.
namespace Go.Proofs.Ytbmhfmkfkdbmdaa.PDsk
open Go.RowKit Go.Proofs.YtbmhfmkfkdbmdaaW.PrintWords Go.Proofs.YtbmhfmkfkdbmdaaW.PrintLast Go.Proofs.YtbmhfmkfkdbmdaaW.PrintMore
attribute [local go_sem] max2_int min2_int max_two min_two max_three min_three max_four min_four   -- for this text's walks alone
set_option linter.unusedVariables false
set_option linter.unusedSimpArgs false
open Go.Proofs.Ytbmhfmkfkdbmdaa.HW

attribute [local go_sem high] eqA76
/-! ### umbelref06_Disk_Fuse: function 34 -/
-- NOT PRINTED: function 35 (umbelref06_Disk_Crash)

/-! ### umbelkeep_Writes: function 36 -/
/-! ### umbelref06_Disk_Pages: function 37 -/
-- NOT PRINTED: function 8 (umbellaw06_DiskPlays)

/-! ### umbelkeep_Long: function 20 -/
def umbelkeep_Long.l0 : Nat → List ByteArray → Int → Int → Int → Option (Bool)
  | 0, _, _, _, _ => none
  | k + 1, x0, x1, x5, x6 => if x6 < (x0.length : Int) then (if x5 ≤ x1 then (if 0 ≤ x6 then (umbelkeep_Long.l0 k x0 x1 (wrap64 (x5 + (wrap64 (1 + (mn ((rdOf ByteArray.empty x0 x6).size : Int) x1))))) (wrap64 (x6 + 1))) else (none)) else (some (decide (x5 > x1)))) else (some (decide (x5 > x1)))
def umbelkeep_Long.f (k : Nat) (l0 : List ByteArray) (a1 : Int) : Option (Bool) := umbelkeep_Long.l0 k l0 a1 0 0
set_option maxHeartbeats 8000000 in
set_option maxRecDepth 100000 in
theorem umbelkeep_Long.calls (k : Nat) (A0 : Option Addr) (c0 : Nat) (l0 : List ByteArray) (a1 : Int) (r : Bool) (w : World) (hr0 : Kd.C Kd.string w A0 l0.length l0) (hc0 : l0.length ≤ c0) (h : umbelkeep_Long.f k l0 a1 = some r) :
    Calls Try.prog 20 #[.slice A0 l0.length c0, .int .i64 a1] w fun e w' => e = .returned (.bool r) ∧ Below w.heap.size w w' := by
  have HR0 := Aside0.mk hr0
  have HC0 := Aside0.mk hc0
  clear hr0 hc0
  have HB := Aside0.mk (Below.refl w.heap.size w)
  have H : (umbelkeep_Long.l0 k l0 a1 0 0) = some r := h
  clear h
  have H' := Aside0.mk H
  clear H
  go_enter Try.func20, Try.ntmps20
  go_wp2
  go_loopg [5, 6] k (fun kq v5 v6 w' => ∃ (x5_1 : Int) (x6_1 : Int), v5 = .int .i64 x5_1 ∧ v6 = .int .i64 x6_1 ∧ Aside0 (umbelkeep_Long.l0 kq l0 a1 x5_1 x6_1 = some r) ∧ Aside0 (kq ≤ k) ∧ Aside0 (Below w.heap.size w w'))
  case atStart => exact ⟨(0), (0), (by first | rfl | (simp; done) | (simp [*]; done)), (by first | rfl | (simp; done) | (simp [*]; done)), H', ⟨Nat.le_refl _⟩, ⟨by repeat (first | (with_reducible first | exact HB.out | apply below_alloc | apply pw_below_drewN | apply below_drew1) | exact HB.out)⟩⟩
  case round =>
    clear H'
    try clear c2
    try clear p2
    obtain ⟨x5_1, x6_1, rfl, rfl, HA, HK1, HB⟩ := hrel
    cases gk with
    | zero => exact absurd HA.out (by simp [umbelkeep_Long.l0])
    | succ k1 =>
      have H := HA.out
      clear HA
      simp only [umbelkeep_Long.l0] at H
      by_cases c3 : x6_1 < (l0.length : Int)
      · rw [if_pos c3] at H
        have c3b0 : decide (x6_1 < (l0.length : Int)) = true := decide_eq_true c3
        clear c3
        by_cases c4 : x5_1 ≤ a1
        · rw [if_pos c4] at H
          have c4b0 : decide (x5_1 ≤ a1) = true := decide_eq_true c4
          clear c4
          by_cases c5 : 0 ≤ x6_1
          · rw [if_pos c5] at H
            have c5b0 : decide (0 ≤ x6_1) = true := decide_eq_true c5
            clear c5
            obtain ⟨ji6, hji6⟩ : ∃ j_ : Int, (mn ((rdOf ByteArray.empty l0 x6_1).size : Int) a1) = j_ := ⟨_, rfl⟩
            replace H : (umbelkeep_Long.l0 k1 l0 a1 (wrap64 (x5_1 + (wrap64 (1 + (ji6))))) (wrap64 (x6_1 + 1))) = some r := by first | (rw [hji6] at H; exact H) | (simp only [hji6] at H ⊢; exact H)
            have hji6_ : (if a1 < ((rdOf ByteArray.empty l0 x6_1).size : Int) then a1 else ((rdOf ByteArray.empty l0 x6_1).size : Int)) = ji6 := hji6
            have H' := Aside0.mk H
            clear H
            have p149 : 0 ≤ (x6_1 : Int) := of_decide_eq_true (by first | (with_reducible assumption) | assumption)
            have q149 : x6_1 < (l0.length : Int) := of_decide_eq_true (by first | (with_reducible assumption) | assumption)
            obtain ⟨ad149, e149, hx149_0⟩ := Kd.at_string HR0.out x6_1 p149 q149
            cases e149
            replace hx149_0 := (HB.out.cell (World.block_lt_of_cell? w _ hx149_0)).trans hx149_0
            replace p149 := eq_true p149
            replace q149 := eq_true q149
            go_wp2
            go_roundg k1
            case measure => have := HK1.out; omega
            case rel => exact ⟨(wrap64 (x5_1 + (wrap64 (1 + (ji6))))), (wrap64 (x6_1 + 1)), (by first | rfl | (simp; done) | (simp only [← hji6] <;> (first | rfl | simp)) | (simp [*]; done)), (by first | rfl | (simp; done) | (simp [*]; done)), H', ⟨by have := HK1.out; omega⟩, ⟨by repeat (first | (with_reducible first | exact HB.out | apply below_alloc | apply pw_below_drewN | apply below_drew1) | exact HB.out)⟩⟩
          · rw [if_neg c5] at H
            exact absurd H (by simp)
        · rw [if_neg c4] at H
          have c4b0 : decide (x5_1 ≤ a1) = false := decide_eq_false c4
          clear c4
          obtain rfl := Option.some.inj H
          go_wp2
          go_ret
          exact ⟨by first | rfl | (simp [errW_none, errW_some] <;> rfl) | (simp [*, errW_none, errW_some] <;> rfl), by repeat (first | (with_reducible first | exact HB.out | apply below_alloc | apply pw_below_drewN | apply below_drew1) | exact HB.out)⟩
      · rw [if_neg c3] at H
        have c3b0 : decide (x6_1 < (l0.length : Int)) = false := decide_eq_false c3
        clear c3
        obtain rfl := Option.some.inj H
        go_wp2
        go_ret
        exact ⟨by first | rfl | (simp [errW_none, errW_some] <;> rfl) | (simp [*, errW_none, errW_some] <;> rfl), by repeat (first | (with_reducible first | exact HB.out | apply below_alloc | apply pw_below_drewN | apply below_drew1) | exact HB.out)⟩

-- NOT PRINTED: function 22 (umbelref06_From)

-- NOT PRINTED: function 6 (umbellaw06_DiskFrom)

-- NOT PRINTED: function 7 (umbellaw06_DiskCopies)

end Go.Proofs.Ytbmhfmkfkdbmdaa.PDsk
end

section
/-
  A disk in memory: its five slots and its two rows; what a call may turn.
-/
namespace Go.Proofs.Ytbmhfmkfkdbmdaa.DskR
open Go.RowKit Go.Proofs.YtbmhfmkfkdbmdaaW.PrintWords Go.Proofs.YtbmhfmkfkdbmdaaW.PrintLast Go.Proofs.YtbmhfmkfkdbmdaaW.PrintMore
set_option linter.unusedVariables false
/-- Pages, what waits, how many pages there may be, the fuse, whether all is down. -/
structure Dk where
  s : List ByteArray
  q : List (Int × ByteArray)
  cap : Int
  fuse : Int
  down : Bool
def sC (l : List ByteArray) : List Value := l.map Value.string
def qC (l : List (Int × ByteArray)) : List Value := l.flatMap fun p => [Value.int .i64 p.1, Value.string p.2]
theorem sC_length (l : List ByteArray) : (sC l).length = l.length := by simp [sC]
theorem qC_length (l : List (Int × ByteArray)) : (qC l).length = l.length * 2 := by
  unfold qC
  induction l with
  | nil => rfl
  | cons p l ih => rw [List.flatMap_cons, List.length_append, ih]; simp; omega
structure IsD (w : World) (B D : Nat) (vs vq : Value) (x : Dk) : Prop where
  blk : w.heap[D]? = some (.cells #[vs, vq, .int .i64 x.cap, .int .i64 x.fuse, .bool x.down] 71 (0, 0))
  ge : B ≤ D
  rs : w.ownsRow B 9 1 vs x.s.length (sC x.s)
  rq : w.ownsRow B 76 2 vq x.q.length (qC x.q)
/-- The disk's own blocks. -/
def own (D : Nat) (vs vq : Value) (k : Nat) : Prop := k = D ∨ vs.ownBlock = some k ∨ vq.ownBlock = some k
/-- But for the blocks that S names all that was there is as it was. -/
structure Fr (w w' : World) (S : Nat → Prop) : Prop where
  os : w'.os = w.os
  tape : w'.tape = w.tape
  output : w'.output = w.output
  size : w.heap.size ≤ w'.heap.size
  block : ∀ k, k < w.heap.size → ¬ S k → w'.heap[k]? = w.heap[k]?
theorem Fr.refl (w : World) (S : Nat → Prop) : Fr w w S := ⟨rfl, rfl, rfl, Nat.le_refl _, fun _ _ _ => rfl⟩
theorem Fr.trans {w w1 w2 : World} {S S' : Nat → Prop} (h : Fr w w1 S) (h' : Fr w1 w2 S') (hs : ∀ k, S' k → S k ∨ w.heap.size ≤ k) : Fr w w2 S :=
  ⟨h'.os.trans h.os, h'.tape.trans h.tape, h'.output.trans h.output, Nat.le_trans h.size h'.size, fun k hk hn =>
    (h'.block k (Nat.lt_of_lt_of_le hk h.size) (fun q => (hs k q).elim hn (fun e => absurd hk (Nat.not_lt.2 e)))).trans (h.block k hk hn)⟩
theorem Fr.below {w w' : World} {S : Nat → Prop} {B : Nat} (h : Fr w w' S) (hB : B ≤ w.heap.size) (hs : ∀ k, S k → B ≤ k) : Below B w w' :=
  ⟨h.os, h.tape, h.output, h.size, fun k hk => h.block k (Nat.lt_of_lt_of_le hk hB) (fun q => absurd hk (Nat.not_lt.2 (hs k q)))⟩
theorem Fr.of_below {w w' : World} {S : Nat → Prop} (h : Below w.heap.size w w') : Fr w w' S := ⟨h.os, h.tape, h.output, h.size, fun k hk _ => h.block k hk⟩
theorem Fr.drew {w w' : World} {S : Nat → Prop} (h : Fr w w' S) : Fr w w'.drew S := ⟨h.os, h.tape, h.output, h.size, h.block⟩
theorem Fr.drewN {w w' : World} {S : Nat → Prop} (h : Fr w w' S) (n : Nat) : Fr w (w'.drewN n) S := ⟨h.os, h.tape, h.output, h.size, h.block⟩
theorem Fr.set {w w' : World} {S : Nat → Prop} (h : Fr w w' S) (p : Addr) (u : Value) (hp : S p.block ∨ w.heap.size ≤ p.block) : Fr w (w'.setCell p u) S :=
  ⟨h.os, h.tape, h.output, by simpa [World.setCell] using h.size, fun k hk hn => (Below.heap_setCell w' p u k (fun e => hp.elim (fun q => hn (by rw [e]; exact q)) (fun q => by omega))).trans (h.block k hk hn)⟩
theorem Fr.alloc {w w' : World} {S : Nat → Prop} (h : Fr w w' S) (o : Obj) : Fr w (w'.alloc o) S :=
  ⟨h.os, h.tape, h.output, Nat.le_trans h.size (by simp), fun k hk hn => (Below.heap_alloc w' o k (Nat.lt_of_lt_of_le hk h.size)).trans (h.block k hk hn)⟩
theorem Fr.grown {w w1 w2 : World} {S : Nat → Prop} {row : Option Nat} (h : Fr w w1 S) (hg : w1.grownBy w2 row) (hr : ∀ k, row = some k → S k ∨ w.heap.size ≤ k) : Fr w w2 S :=
  ⟨hg.os.trans h.os, hg.tape.trans h.tape, hg.output.trans h.output, Nat.le_trans h.size hg.size, fun k hk hn =>
    (hg.block k (Nat.lt_of_lt_of_le hk h.size) (fun e => (hr k e.symm).elim hn (fun q => absurd hk (Nat.not_lt.2 q)))).trans (h.block k hk hn)⟩
section
variable {w w' : World} {B D : Nat} {vs vq : Value} {x : Dk}
theorem IsD.ns (h : IsD w B D vs vq x) : vs.ownBlock ≠ some D := fun e => by
  obtain ⟨c, fz, hc⟩ := Lib.ownsRow_kind h.rs D e
  rw [h.blk] at hc
  simp at hc
theorem IsD.nq (h : IsD w B D vs vq x) : vq.ownBlock ≠ some D := fun e => by
  obtain ⟨c, fz, hc⟩ := Lib.ownsRow_kind h.rq D e
  rw [h.blk] at hc
  simp at hc
theorem IsD.nsq (h : IsD w B D vs vq x) {g : Nat} (hs : vs.ownBlock = some g) : vq.ownBlock ≠ some g := fun e => by
  obtain ⟨c, fz, hc⟩ := Lib.ownsRow_kind h.rs g hs
  obtain ⟨c', fz', hc'⟩ := Lib.ownsRow_kind h.rq g e
  rw [hc] at hc'
  simp at hc'
theorem IsD.lt (h : IsD w B D vs vq x) : D < w.heap.size := blk_lt h.blk
theorem IsD.own_ge (h : IsD w B D vs vq x) {k : Nat} (hk : own D vs vq k) : B ≤ k := by
  rcases hk with rfl | hk | hk
  · exact h.ge
  · exact (h.rs.lt k hk).1
  · exact (h.rq.lt k hk).1
theorem IsD.own_lt (h : IsD w B D vs vq x) {k : Nat} (hk : own D vs vq k) : k < w.heap.size := by
  rcases hk with rfl | hk | hk
  · exact h.lt
  · exact (h.rs.lt k hk).2
  · exact (h.rq.lt k hk).2
/-- A row whose block is as it was is as it was. -/
theorem row_same {e : TypeId} {size n : Nat} {v : Value} {xs : List Value} (h : w.ownsRow B e size v n xs) (hb : ∀ k, v.ownBlock = some k → w'.heap[k]? = w.heap[k]?) : w'.ownsRow B e size v n xs := by
  obtain ⟨h1, h2 | ⟨g, cap, cur, rfl, h3, h4, h5⟩⟩ := h
  · exact ⟨h1, .inl h2⟩
  · exact ⟨h1, .inr ⟨g, cap, cur, rfl, h3, (hb g rfl).trans h4, h5⟩⟩
/-- A disk whose blocks are as they were is as it was. -/
theorem IsD.same (h : IsD w B D vs vq x) (hb : ∀ k, own D vs vq k → w'.heap[k]? = w.heap[k]?) : IsD w' B D vs vq x :=
  ⟨(hb D (.inl rfl)).trans h.blk, h.ge, row_same h.rs (fun k hk => hb k (.inr (.inl hk))), row_same h.rq (fun k hk => hb k (.inr (.inr hk)))⟩
theorem IsD.fr (h : IsD w B D vs vq x) {S : Nat → Prop} (hf : Fr w w' S) (hs : ∀ k, own D vs vq k → ¬ S k) : IsD w' B D vs vq x :=
  h.same fun k hk => hf.block k (h.own_lt hk) (hs k hk)
theorem IsD.below (h : IsD w B D vs vq x) (hb : Below w.heap.size w w') : IsD w' B D vs vq x := h.same fun k hk => hb.block k (h.own_lt hk)
theorem IsD.drew (h : IsD w B D vs vq x) : IsD w.drew B D vs vq x := h.same fun _ _ => rfl
theorem IsD.drewN (h : IsD w B D vs vq x) (n : Nat) : IsD (w.drewN n) B D vs vq x := h.same fun _ _ => rfl
theorem IsD.alloc (h : IsD w B D vs vq x) (o : Obj) : IsD (w.alloc o) B D vs vq x := h.same fun k hk => Below.heap_alloc w o k (h.own_lt hk)
theorem IsD.setFuse (h : IsD w B D vs vq x) (n : Int) : IsD (w.setCell ⟨D, 3, none⟩ (.int .i64 n)) B D vs vq { x with fuse := n } :=
  ⟨blk_put h.blk 3 _ rfl, h.ge, ownsRow_setCell_other h.rs h.ns _, ownsRow_setCell_other h.rq h.nq _⟩
theorem IsD.setDown (h : IsD w B D vs vq x) (b : Bool) : IsD (w.setCell ⟨D, 4, none⟩ (.bool b)) B D vs vq { x with down := b } :=
  ⟨blk_put h.blk 4 _ rfl, h.ge, ownsRow_setCell_other h.rs h.ns _, ownsRow_setCell_other h.rq h.nq _⟩
theorem IsD.setS (h : IsD w B D vs vq x) {v : Value} {l : List ByteArray} (hv : w.ownsRow B 9 1 v l.length (sC l)) (hn : v.ownBlock ≠ some D) : IsD (w.setCell ⟨D, 0, none⟩ v) B D v vq { x with s := l } :=
  ⟨blk_put h.blk 0 _ rfl, h.ge, ownsRow_setCell_other hv hn _, ownsRow_setCell_other h.rq h.nq _⟩
theorem IsD.setQ (h : IsD w B D vs vq x) {v : Value} {l : List (Int × ByteArray)} (hv : w.ownsRow B 76 2 v l.length (qC l)) (hn : v.ownBlock ≠ some D) : IsD (w.setCell ⟨D, 1, none⟩ v) B D vs v { x with q := l } :=
  ⟨blk_put h.blk 1 _ rfl, h.ge, ownsRow_setCell_other h.rs h.ns _, ownsRow_setCell_other hv hn _⟩
/-- The five slots. -/
theorem IsD.cells (h : IsD w B D vs vq x) : (w.cell? ⟨D, 0, none⟩ = some vs ∧ w.cell? ⟨D, 1, none⟩ = some vq ∧ w.cell? ⟨D, 2, none⟩ = some (.int .i64 x.cap) ∧ w.cell? ⟨D, 3, none⟩ = some (.int .i64 x.fuse) ∧ w.cell? ⟨D, 4, none⟩ = some (.bool x.down)) ∧
    w.frozen? ⟨D, 0, none⟩ = false ∧ w.frozen? ⟨D, 1, none⟩ = false ∧ w.frozen? ⟨D, 2, none⟩ = false ∧ w.frozen? ⟨D, 3, none⟩ = false ∧ w.frozen? ⟨D, 4, none⟩ = false :=
  ⟨⟨(blk_cell h.blk 0).trans rfl, (blk_cell h.blk 1).trans rfl, (blk_cell h.blk 2).trans rfl, (blk_cell h.blk 3).trans rfl, (blk_cell h.blk 4).trans rfl⟩, blk_frozen h.blk 0, blk_frozen h.blk 1, blk_frozen h.blk 2, blk_frozen h.blk 3, blk_frozen h.blk 4⟩
end
/-- What a call leaves that turns the disk into x'. -/
def Post (w : World) (B D : Nat) (vs vq : Value) (x' : Dk) (w' : World) : Prop :=
  ∃ vs' vq', IsD w' B D vs' vq' x' ∧ Fr w w' (own D vs vq) ∧ ∀ k, own D vs' vq' k → own D vs vq k ∨ w.heap.size ≤ k
end Go.Proofs.Ytbmhfmkfkdbmdaa.DskR
end

section
/-
  The methods of a disk that nobody made.
-/
namespace Go.Proofs.Ytbmhfmkfkdbmdaa.DskN
open Go.RowKit Go.Proofs.YtbmhfmkfkdbmdaaW.PrintWords Go.Proofs.YtbmhfmkfkdbmdaaW.PrintLast Go.Proofs.YtbmhfmkfkdbmdaaW.PrintMore
set_option linter.unusedVariables false
theorem length_nil (w : World) : Calls Try.prog 26 #[.pointer none] w fun e w' => e = .returned (.int .i64 0) ∧ Below w.heap.size w w' := by
  go_enter Try.func26, Try.ntmps26
  go_wp2
  go_ret
  exact ⟨rfl, Below.refl _ _⟩
end Go.Proofs.Ytbmhfmkfkdbmdaa.DskN
end

section
/-
  The small methods of a disk: Fuse, Length, Limit.
-/
namespace Go.Proofs.Ytbmhfmkfkdbmdaa.DskM
open Go.RowKit Go.Proofs.YtbmhfmkfkdbmdaaW.PrintWords Go.Proofs.YtbmhfmkfkdbmdaaW.PrintLast Go.Proofs.YtbmhfmkfkdbmdaaW.PrintMore Go.Proofs.Ytbmhfmkfkdbmdaa.DskR
attribute [local go_sem] max2_int min2_int max_two min_two
set_option linter.unusedVariables false
section
variable {w : World} {B D : Nat} {vs vq : Value} {x : Dk}
theorem fuse_c (hD : IsD w B D vs vq x) (n : Int) : Calls Try.prog 18 #[.pointer (some ⟨D, 0, none⟩), .int .i64 n] w fun e w' => e = .returned (.tuple #[]) ∧ Post w B D vs vq { x with fuse := if n < -1 then -1 else n } w' := by
  obtain ⟨⟨c0, c1, c2, c3, c4⟩, f0, f1, f2, f3, f4⟩ := hD.cells
  go_enter Try.func18, Try.ntmps18
  go_wp2_with fail
  all_goals go_end0
  all_goals exact ⟨rfl, vs, vq, hD.setFuse _, (Fr.refl _ _).set _ _ (.inl (.inl rfl)), fun k hk => .inl hk⟩
theorem length_c (h : IsD w B D vs vq x) {n c : Nat} {A : Option Addr} (hv : vs = .slice A n c) : Calls Try.prog 26 #[.pointer (some ⟨D, 0, none⟩)] w fun e w' => e = .returned (.int .i64 (n : Int)) ∧ Below w.heap.size w w' := by
  subst hv
  obtain ⟨⟨c0, c1, c2, c3, c4⟩, f0, f1, f2, f3, f4⟩ := h.cells
  go_enter Try.func26, Try.ntmps26
  go_wp2_with fail
  go_ret
  exact ⟨rfl, Below.refl _ _⟩
theorem limit_c (h : IsD w B D vs vq x) : Calls Try.prog 25 #[.pointer (some ⟨D, 0, none⟩)] w fun e w' => e = .returned (.int .i64 x.cap) ∧ Below w.heap.size w w' := by
  obtain ⟨⟨c0, c1, c2, c3, c4⟩, f0, f1, f2, f3, f4⟩ := h.cells
  go_enter Try.func25, Try.ntmps25
  go_wp2_with fail
  go_ret
  exact ⟨rfl, Below.refl _ _⟩
end
end Go.Proofs.Ytbmhfmkfkdbmdaa.DskM
end

section
/-
  A disk's Write: its closure.
-/
namespace Go.Proofs.Ytbmhfmkfkdbmdaa.DskW
open Go.RowKit Go.Proofs.YtbmhfmkfkdbmdaaW.PrintWords Go.Proofs.YtbmhfmkfkdbmdaaW.PrintLast Go.Proofs.YtbmhfmkfkdbmdaaW.PrintMore Go.Proofs.Ytbmhfmkfkdbmdaa.DskR
set_option linter.unusedVariables false
section
variable {w : World} {B D : Nat} {vs vq : Value} {x : Dk}
theorem ne_own {v : Value} {e t : TypeId} {size n g : Nat} {xs : List Value} {cs : Array Value} {fz : Nat × Nat} (h : w.ownsRow B e size v n xs) (hb : w.heap[g]? = some (.cells cs t fz)) (ht : e ≠ t) : some g ≠ v.ownBlock := fun q => by
  obtain ⟨c, f, hc⟩ := Lib.ownsRow_kind h g q.symm
  rw [hb] at hc
  simp at hc
  exact ht hc.2.1.symm
theorem qC_snoc (l : List (Int × ByteArray)) (p : Int × ByteArray) : qC (l ++ [p]) = qC l ++ [Value.int .i64 p.1, Value.string p.2] := by simp [qC]
set_option maxHeartbeats 4000000 in
set_option maxRecDepth 100000 in
theorem clo (hD : IsD w B D vs vq x) (hB : B ≤ w.heap.size) (hq : x.q.length < 1000000) {b0 b1 b2 : Nat} (at_ : Int) (s : ByteArray) (h0 : w.heap[b0]? = some (.cells #[.pointer (some ⟨D, 0, none⟩)] 25 (0, 0))) (h1 : w.heap[b1]? = some (.cells #[.int .i64 at_] 3 (0, 0))) (h2 : w.heap[b2]? = some (.cells #[.string s] 9 (0, 0))) :
    Calls Try.prog 42 #[.pointer (some ⟨b0, 0, none⟩), .pointer (some ⟨b1, 0, none⟩), .pointer (some ⟨b2, 0, none⟩)] w fun e w' => e = .returned (.tuple #[]) ∧ Post w B D vs vq { x with q := x.q ++ [(at_, s)] } w' := by
  have HD := Aside0.mk hD.drew
  obtain ⟨⟨c0, c1, c2, c3, c4⟩, f0, f1, f2, f3, f4⟩ := hD.cells
  have n0 := ne_own hD.rq h0 (by decide)
  have n1 := ne_own hD.rq h1 (by decide)
  have n2 := ne_own hD.rq h2 (by decide)
  have n3 : some D ≠ vq.ownBlock := fun q => hD.nq q.symm
  have hx0 := Aside0.mk (blk_lt h0)
  have hx1 := Aside0.mk (blk_lt h1)
  have hx2 := Aside0.mk (blk_lt h2)
  have hx3 := Aside0.mk hD.lt
  have hFr := Aside0.mk ((Fr.refl w (own D vs vq)).drew)
  have a0 : w.drew.cell? ⟨b0, 0, none⟩ = some (.pointer (some ⟨D, 0, none⟩)) := (blk_cell h0 0).trans rfl
  have a1 : w.drew.cell? ⟨b1, 0, none⟩ = some (.int .i64 at_) := (blk_cell h1 0).trans rfl
  have a2 : w.drew.cell? ⟨b2, 0, none⟩ = some (.string s) := (blk_cell h2 0).trans rfl
  have a3 : w.drew.cell? ⟨D, 1, none⟩ = some vq := c1
  clear c0 c1 c2 c3 c4 f0 f1 f2 f3 f4 h0 h1 h2 hD
  obtain ⟨i0, hi, hi0, hi1, hi2⟩ := info_parts (show (Try.prog.info? 76).map (fun i => (i.zero, i.size, i.bytes)) = some (some (.agg #[.int .i64 0, .string (⟨#[]⟩ : ByteArray)]), 2, 24) by kernel_rfl)
  go_enter Try.func42, Try.ntmps42
  refine start_ (n := 13) (S := (fun w' => w'.cell? ⟨b0, 0, none⟩ = some (.pointer (some ⟨D, 0, none⟩)) ∧ w'.cell? ⟨D, 1, none⟩ = some vq ∧ w'.cell? ⟨b1, 0, none⟩ = some (.int .i64 at_) ∧ w'.cell? ⟨b2, 0, none⟩ = some (.string s))) (ds := [12]) #[false, false, false, false, false, false, false, false, false, false, false, false, false] (by kernel_rfl) rfl rfl ⟨a0, a3, a1, a2⟩ (fun hHeld => ?_)
  refine take_ (i := 0) (N := (some 3)) (v := ?_) (a' := ?_) #[true, false, false, false, false, false, false, false, false, false, false, false, false] rfl rfl (by kernel_rfl) (fun _ _ _ h => h) (Or.inl ⟨by rfl, ?_⟩) hHeld ?_ ?_
  rotate_left
  · rintro w' ⟨s0, s1, s2, s3⟩
    go_simp
    with_reducible rfl
  rotate_left
  · simp only [Act.put, List.setIfInBounds_toArray, List.set_cons_zero, List.set_cons_succ]
    rfl
  refine take_ (i := 1) (N := (some 4)) (v := ?_) (a' := ?_) #[true, true, false, false, false, false, false, false, false, false, false, false, false] rfl rfl (by kernel_rfl) (fun _ _ _ h => h) (Or.inl ⟨by rfl, ?_⟩) hHeld ?_ ?_
  rotate_left
  · rintro w' ⟨s0, s1, s2, s3⟩
    go_simp
    with_reducible rfl
  rotate_left
  · simp only [Act.put, List.setIfInBounds_toArray, List.set_cons_zero, List.set_cons_succ]
    rfl
  refine pure_ (i := 2) (N := (some 5)) (v := ?_) (a' := ?_) #[true, true, true, false, false, false, false, false, false, false, false, false, false] rfl rfl (by kernel_rfl) (fun _ _ _ h => h) (Or.inl ⟨by rfl, ?_⟩) ?_ ?_
  rotate_left
  · intro w'
    go_simp
    with_reducible rfl
  rotate_left
  · simp only [Act.put, List.setIfInBounds_toArray, List.set_cons_zero, List.set_cons_succ]
    rfl
  refine pure_ (i := 3) (N := (some 6)) (v := ?_) (a' := ?_) #[true, true, true, true, false, false, false, false, false, false, false, false, false] rfl rfl (by kernel_rfl) (fun _ _ _ h => h) (Or.inl ⟨by rfl, ?_⟩) ?_ ?_
  rotate_left
  · intro w'
    go_simp
    with_reducible rfl
  rotate_left
  · simp only [Act.put, List.setIfInBounds_toArray, List.set_cons_zero, List.set_cons_succ]
    rfl
  refine take_ (i := 4) (N := (some 7)) (v := ?_) (a' := ?_) #[true, true, true, true, true, false, false, false, false, false, false, false, false] rfl rfl (by kernel_rfl) (fun _ _ _ h => h) (Or.inl ⟨by rfl, ?_⟩) hHeld ?_ ?_
  rotate_left
  · rintro w' ⟨s0, s1, s2, s3⟩
    go_simp
    with_reducible rfl
  rotate_left
  · simp only [Act.put, List.setIfInBounds_toArray, List.set_cons_zero, List.set_cons_succ]
    rfl
  refine take_ (i := 5) (N := (some 8)) (v := ?_) (a' := ?_) #[true, true, true, true, true, true, false, false, false, false, false, false, false] rfl rfl (by kernel_rfl) (fun _ _ _ h => h) (Or.inl ⟨by rfl, ?_⟩) hHeld ?_ ?_
  rotate_left
  · rintro w' ⟨s0, s1, s2, s3⟩
    go_simp
    with_reducible rfl
  rotate_left
  · simp only [Act.put, List.setIfInBounds_toArray, List.set_cons_zero, List.set_cons_succ]
    rfl
  refine take_ (i := 6) (N := (some 9)) (v := ?_) (a' := ?_) #[true, true, true, true, true, true, true, false, false, false, false, false, false] rfl rfl (by kernel_rfl) (fun _ _ _ h => h) (Or.inl ⟨by rfl, ?_⟩) hHeld ?_ ?_
  rotate_left
  · rintro w' ⟨s0, s1, s2, s3⟩
    go_simp
    with_reducible rfl
  rotate_left
  · simp only [Act.put, List.setIfInBounds_toArray, List.set_cons_zero, List.set_cons_succ]
    rfl
  refine pure_ (i := 7) (N := (some 10)) (v := ?_) (a' := ?_) #[true, true, true, true, true, true, true, true, false, false, false, false, false] rfl rfl (by kernel_rfl) (fun _ _ _ h => h) (Or.inl ⟨by rfl, ?_⟩) ?_ ?_
  rotate_left
  · intro w'
    go_simp
    with_reducible rfl
  rotate_left
  · simp only [Act.put, List.setIfInBounds_toArray, List.set_cons_zero, List.set_cons_succ]
    rfl
  refine one_ (i := 8) (N := some 11) #[true, true, true, true, true, true, true, true, true, false, false, false, false] rfl rfl (by kernel_rfl) (by decide) (fun K hK => ?_)
  refine event_step (v := .slice (some ⟨w.drew.heap.size, 0, none⟩) 1 1) (w1 := w.drew.alloc (.cells #[.int .i64 at_, .string s] 76)) (by rfl) (by go_simp) ?_
  have b0_ : (w.drew.alloc (.cells #[.int .i64 at_, .string s] 76)).cell? ⟨b0, 0, none⟩ = some (.pointer (some ⟨D, 0, none⟩)) := (World.cell?_alloc_past _ _ _ hx0.out).trans a0
  have b3_ : (w.drew.alloc (.cells #[.int .i64 at_, .string s] 76)).cell? ⟨D, 1, none⟩ = some (vq) := (World.cell?_alloc_past _ _ _ hx3.out).trans a3
  have b1_ : (w.drew.alloc (.cells #[.int .i64 at_, .string s] 76)).cell? ⟨b1, 0, none⟩ = some (.int .i64 at_) := (World.cell?_alloc_past _ _ _ hx1.out).trans a1
  have b2_ : (w.drew.alloc (.cells #[.int .i64 at_, .string s] 76)).cell? ⟨b2, 0, none⟩ = some (.string s) := (World.cell?_alloc_past _ _ _ hx2.out).trans a2
  refine hK.out _ _ ⟨b0_, b3_, b1_, b2_⟩ (fun hHeld => ?_)
  clear hK K a0 a1 a2 a3
  refine norm_ (a' := ?_) ?_ ?_
  rotate_left
  · show Act.put _ (some 11) _ = _
    simp only [Act.put, List.setIfInBounds_toArray, List.set_cons_zero, List.set_cons_succ]
    rfl
  have hnw : (w.drew.alloc (.cells #[.int .i64 at_, .string s] 76)).heap[w.drew.heap.size]? = some (.cells #[.int .i64 at_, .string s] 76 (0, 0)) := blk_new _ _
  have HD1 := Aside0.mk (HD.out.alloc (.cells #[.int .i64 at_, .string s] 76))
  have hFr1 := Aside0.mk (hFr.out.alloc (.cells #[.int .i64 at_, .string s] 76))
  have hsz1 : (w.drew.alloc (.cells #[.int .i64 at_, .string s] 76)).heap.size = w.drew.heap.size + 1 := by simp
  obtain ⟨w1, hw1⟩ : ∃ w1, w1 = w.drew.alloc (.cells #[.int .i64 at_, .string s] 76) := ⟨_, rfl⟩
  rw [← hw1] at b0_ b1_ b2_ b3_ hnw HD1 hFr1 hsz1 hHeld ⊢
  clear hw1 HD hFr
  refine one_ (i := 9) (N := some 12) #[true, true, true, true, true, true, true, true, true, true, false, false, false] rfl rfl (by kernel_rfl) (by decide) (fun K hK => ?_)
  refine step_append_lies w1 rfl (.tmp 7) (.tmp 11) 41 rfl B 76 i0 _ 2 24 Try.underlying41 hi hi0 hi1 hi2 rfl (by decide) vq x.q.length (qC x.q) (by rfl) HD1.out.rq ⟨w.drew.heap.size, 0, none⟩ 1 1 [.int .i64 at_, .string s] (by rfl) rfl (World.news_of_block hnw) (by simp [Value.oneCell']) (by decide) (by unfold maxLen; omega) (by omega) (by rw [hsz1]; exact Nat.le_succ_of_le hB) _ rfl ?_
  intro g cap w2 hown hgrow hgb hglt
  have lt0 : b0 < w1.heap.size := by rw [hsz1]; exact Nat.lt_succ_of_lt hx0.out
  have lt1 : b1 < w1.heap.size := by rw [hsz1]; exact Nat.lt_succ_of_lt hx1.out
  have lt2 : b2 < w1.heap.size := by rw [hsz1]; exact Nat.lt_succ_of_lt hx2.out
  have lt3 : D < w1.heap.size := by rw [hsz1]; exact Nat.lt_succ_of_lt hx3.out
  have e0 := (hgrow.cell_far ⟨b0, 0, none⟩ lt0 n0).trans b0_
  have e1 := (hgrow.cell_far ⟨b1, 0, none⟩ lt1 n1).trans b1_
  have e2 := (hgrow.cell_far ⟨b2, 0, none⟩ lt2 n2).trans b2_
  have e3 := (hgrow.cell_far ⟨D, 1, none⟩ lt3 n3).trans b3_
  have ef := (hgrow.frozen_far ⟨D, 1, none⟩ lt3 n3).trans (blk_frozen HD1.out.blk 1)
  have hrs := Aside0.mk (HD1.out.rs.kept hgrow (by cases hk : vs.ownBlock with | none => exact .inl rfl | some k => exact .inr (fun q => HD1.out.nsq hk q.symm)))
  have hbk := Aside0.mk ((hgrow.block D lt3 n3).trans HD1.out.blk)
  have hFr2 := Aside0.mk (hFr1.out.grown hgrow (fun k hk => .inl (.inr (.inr hk))))
  have hOw := Aside0.mk hown
  have hgb1 := Aside0.mk hgb
  refine hK.out _ _ ⟨e0, e3, e1, e2⟩ (fun hHeld => ?_)
  clear hK K hown hgrow hgb hglt lt0 lt1 lt2 b0_ b1_ b2_ b3_ e0 e1 e2
  refine norm_ (a' := ?_) ?_ ?_
  rotate_left
  · show Act.put _ (some 12) _ = _
    simp only [Act.put, List.setIfInBounds_toArray, List.set_cons_zero, List.set_cons_succ]
    rfl
  refine pure_ (i := 10) (N := (some 13)) (v := ?_) (a' := ?_) #[true, true, true, true, true, true, true, true, true, true, true, false, false] rfl rfl (by kernel_rfl) (fun _ _ _ h => h) (Or.inl ⟨by rfl, ?_⟩) ?_ ?_
  rotate_left
  · intro w'
    go_simp
    with_reducible rfl
  rotate_left
  · simp only [Act.put, List.setIfInBounds_toArray, List.set_cons_zero, List.set_cons_succ]
    rfl
  refine pure_ (i := 11) (N := (some 14)) (v := ?_) (a' := ?_) #[true, true, true, true, true, true, true, true, true, true, true, true, false] rfl rfl (by kernel_rfl) (fun _ _ _ h => h) (Or.inl ⟨by rfl, ?_⟩) ?_ ?_
  rotate_left
  · intro w'
    go_simp
    with_reducible rfl
  rotate_left
  · simp only [Act.put, List.setIfInBounds_toArray, List.set_cons_zero, List.set_cons_succ]
    rfl
  refine last_ (i := 12) (N := none) #[true, true, true, true, true, true, true, true, true, true, true, true, true] rfl rfl (by kernel_rfl) (by decide) (fun K hK => ?_)
  refine skip_ (w1 := ?_) (by rfl) rfl ?_ ?_
  rotate_left
  · go_simp
    rfl
  refine hK.out _ _ ?_
  clear hK K
  refine done_ (by kernel_rfl) ?_
  go_end0
  have hgD : g ≠ D := by rintro rfl; exact hgb1.out.elim (fun q => HD1.out.nq q) (fun q => absurd lt3 (by omega))
  refine ⟨rfl, vs, _, ⟨blk_put hbk.out 1 _ rfl, HD1.out.ge, ownsRow_setCell_other hrs.out HD1.out.ns _, ownsRow_setCell_other (by rw [qC_snoc, List.length_append]; exact hOw.out) (show (Value.slice (some ⟨g, 0, none⟩) (x.q.length + 1) cap).ownBlock ≠ some D from fun q => hgD (Option.some.inj q)) _⟩, hFr2.out.set _ _ (.inl (.inl rfl)), ?_⟩
  rintro k (rfl | hk | hk)
  · exact .inl (.inl rfl)
  · exact .inl (.inr (.inl hk))
  · obtain rfl : g = k := Option.some.inj hk
    exact hgb1.out.elim (fun q => .inl (.inr (.inr q))) (fun q => .inr (by rw [q]; exact hFr1.out.size))
end
end Go.Proofs.Ytbmhfmkfkdbmdaa.DskW
end
