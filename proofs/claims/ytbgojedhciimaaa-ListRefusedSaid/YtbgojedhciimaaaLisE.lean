/-
  list.Encode by hand.
-/
import Derived.Test.YtbgojedhciimaaaLisH
import Derived.ArgAppend
namespace Go.Proofs.Ytbgojedhciimaaa.LisE
open Go.RowKit Go.Proofs.YtbgojedhciimaaaW.PrintWords Go.Proofs.YtbgojedhciimaaaW.PrintMore Go.Proofs.Ytbgojedhciimaaa.Cm Go.Proofs.Ytbgojedhciimaaa.LisH Go.Proofs.Ytbgojedhciimaaa.PLis
set_option linter.unusedVariables false
theorem info5 : (Try.prog.info? 5).map (fun i => (i.zero, i.size, i.bytes)) = some (some (.int .u8 0), 1, 1) := by kernel_rfl
theorem size_alloc (w : World) (o : Obj) : (w.alloc o).heap.size = w.heap.size + 1 := by simp
theorem own_le {w : World} {base base' : Nat} {e : TypeId} {size : Nat} {v : Value} {n : Nat} {xs : List Value} (h : w.ownsRow base e size v n xs) (hb : base' ≤ base) : w.ownsRow base' e size v n xs :=
  ⟨h.1, h.2.imp id (fun ⟨g, cap, cur, e, hg, r⟩ => ⟨g, cap, cur, e, Nat.le_trans hb hg, r⟩)⟩
theorem cells_at (w : World) (cs : Array Value) (t : TypeId) (j : Nat) (u : Value) (h : cs[j]? = some u) : (w.alloc (.cells cs t)).cell? { block := w.heap.size, off := j } = some u := by
  exact (blk_cell (blk_new w _) j).trans h
theorem c_cells (w : World) (l : List Int) (t : TypeId) (hl : l.length ≤ 9223372036854775807) : (Kd.int .u8).C (w.alloc (.cells (l.map (Value.int .u8)).toArray t)) (some { block := w.heap.size, off := 0 }) l.length l := by
  refine ⟨rfl, hl, fun _ => ⟨_, rfl, fun j p hj => ⟨[.int .u8 p], rfl, rfl, fun i u hi => ?_⟩⟩⟩
  obtain ⟨rfl, rfl⟩ : i = 0 ∧ u = .int .u8 p := by
    cases i with
    | zero => exact ⟨rfl, by simpa using hi.symm⟩
    | succ n => simp at hi
  rw [Addr.add_lit]
  exact cells_at w _ t _ _ (by rw [show j * (Kd.int IntKind.u8).sz = j from Nat.mul_one j]; simp [hj])
/-- What stands behind the head. -/
def tailL (l : List Int) (j : Nat) : List Int := (l.take j).flatMap b2
theorem tailL_succ (l : List Int) (j : Nat) (h : j < l.length) : tailL l (j + 1) = tailL l j ++ b2 (l.getD j 0) := by
  rw [tailL, List.take_succ_eq_append_getElem h, List.flatMap_append]
  simp [tailL, h]
theorem tailL_len (l : List Int) (j : Nat) (h : j ≤ l.length) : (tailL l j).length = 2 * j := by
  induction j with
  | zero => simp [tailL]
  | succ n ih => rw [tailL_succ l n h, List.length_append, ih (by omega)]; simp [b2]; omega
theorem tailL_all (l : List Int) : tailL l l.length = l.flatMap b2 := by rw [tailL, List.take_length]
set_option maxHeartbeats 2000000 in
theorem enc_yes (k : Nat) (A : Option Addr) (c : Nat) (l : List Int) (next : Int) (w : World) (hr : Kd.C (Kd.int .i64) w A l.length l) (hc : l.length ≤ c) (hl : l.length ≤ 20) (h : list_may.f k l next = some true) :
    Calls Try.prog 25 #[.slice A l.length c, .int .i64 next] w fun e w' => e = .returned (.tuple #[.string (strOfNums (encL l next)), .bool true]) ∧ Below w.heap.size w w' := by
  have M := Lib.hid fun W (hb : Below w.heap.size w W) => list_may.calls k A c l next true W (Kd.C_below hr hb) hc h
  have HR := Lib.hid fun W (hb : Below w.heap.size w W) => Kd.C_below hr hb
  clear h
  have hC3 := Cm.Calm.refl w
  go_enter Try.func25, Try.ntmps25
  go_wp2_with fail
  refine (M.out _ hC3.below).mono ?_
  rintro e w1 ⟨rfl, hd⟩
  have hC4 : Cm.Calm w w1 := ⟨hd.below⟩
  clear hC3 hd
  have T := Lib.hid fun W v => two_c v W
  go_wp2_with fail
  refine (Calm.call hC4 (T.out _ _)).mono ?_
  rintro e w2 ⟨rfl, hC5⟩
  clear hC4
  have hi5 := info_parts info5
  obtain ⟨i5, hi5, hz0, hz1, hz2⟩ := hi5
  go_wp2_with ((with_reducible refine gate_builtin (b := .append) (xs := #[.tmp 17, .tmp 21]) rfl ?_); at_builtin; refine wpList_append_grows _ rfl (.tmp 17) (.tmp 21) 53 rfl 5 i5 (.int .u8 0) 1 1 Try.underlying53 hi5 hz0 hz1 hz2 rfl (by decide) _ 2 2 [.int .u8 (next / 256 % 256), .int .u8 (next % 256)] rfl (fun h => by cases h) rfl ?aO _ 1 1 [.int .u8 l.length] rfl rfl ?aN (by intro u hu; simp at hu; subst hu; rfl) (by decide) (by decide) (by decide) ?_; (case aO => intro b hb j u hu; injection hb with hb; subst hb; rw [Addr.add_lit, Nat.zero_add]; exact (blk_cell (blk_alloc (blk_new _ _) _) j).trans (by simpa using hu)); (case aN => intro j u hu; rw [Addr.add_lit, Nat.zero_add]; rw [← size_alloc]; exact (blk_cell (blk_new _ _) j).trans (by simpa using hu)); intro v1 w3 ho hg)
  have hb3 : Below w.heap.size w w3 := by
    have hs := hC5.below.size
    exact Below.grown (below_alloc (below_alloc hC5.below _) _) hg (by simp; omega) (by simp)
  have HO : Kd.R (Kd.int .u8) 5 w3 w.heap.size (fun _ => True) v1 ([next / 256 % 256, next % 256, (l.length : Int)] ++ tailL l 0) := by
    have hs := hC5.below.size
    exact Kd.R_of_own (own_le ho (by simp; omega)) (fun _ _ => trivial)
  clear ho hg hC5 hi5 hz0 hz1 hz2
  clear i5
  obtain ⟨z, hz⟩ : ∃ z : Value, z = .pointer (some { block := w2.heap.size, off := 0 }) := ⟨_, rfl⟩
  go_loopw [7, 25] (fun v7 v25 w' => ∃ (j : Nat), j ≤ l.length ∧ v25 = .int .i64 (j : Int) ∧ Aside0 (Kd.R (Kd.int .u8) 5 w' w.heap.size (fun _ => True) v7 ([next / 256 % 256, next % 256, (l.length : Int)] ++ tailL l j)) ∧ Aside0 (Below w.heap.size w w')) (fun _ v25 _ => (l.length - intOf v25).toNat)
  case atStart => exact ⟨0, by omega, rfl, ⟨HO⟩, ⟨hb3⟩⟩
  case round =>
    obtain ⟨j, hj, rfl, HO, HB⟩ := hrel
    by_cases hlt : j < l.length
    · have p1 : decide ((j : Int) < (l.length : Int)) = true := decide_eq_true (by omega)
      obtain ⟨ad, ea, hx⟩ := Kd.at_int (HR.out _ HB.out) (j : Int) (by omega) (by omega)
      subst ea
      rw [Int.toNat_natCast] at hx
      clear hr M
      go_wp2_with fail
      have hW := Cm.Calm.refl wr
      refine (Calm.call hW (T.out _ _)).mono ?_
      rintro e w4 ⟨rfl, hW4⟩
      clear hW
      have hb4 : Below w.heap.size w w4 := HB.out.trans (by first | exact hW4.below.mono HB.out.size | exact hW4.below)
      go_wp2_with ((with_reducible refine gate_builtin (b := .append) (xs := #[.tmp 31, .tmp 32]) rfl ?_); at_builtin; refine Kd.R_append_row (Value.int .u8) (0 : Int) (h1 := fun _ => rfl) (w0 := w) w.heap.size rfl (.tmp 31) (.tmp 32) 53 5 (.int .u8 0) 1 rfl Try.underlying53 info5 rfl (by decide) u7 ([next / 256 % 256, next % 256, (l.length : Int)] ++ tailL l j) (b2 (rd l (j : Int))) _ 2 2 (fun _ => True) rfl rfl (fun _ _ => trivial) ?aO ?aR ?aB ?aS ?aL ?_; (case aO => exact Kd.R_alloc (Kd.R_below HO.out hW4.below) _); (case aR => exact c_cells w4 (b2 (rd l (j : Int))) _ (by simp [b2])); (case aB => exact below_alloc hb4 _); (case aS => have := hb4.size; simp; omega); (case aL => rw [List.length_append, tailL_len l j hj]; simp; omega); intro v5 w5 ho5 hb5 hg5 hat5)
      rw [List.append_assoc, show b2 (rd l (j : Int)) = b2 (l.getD j 0) by simp [rd], ← tailL_succ l j hlt] at ho5
      exact ⟨⟨j + 1, hlt, by simp, ⟨ho5⟩, ⟨hb5⟩⟩, by simp [intOf]; omega⟩
    · have p1 : decide ((j : Int) < (l.length : Int)) = false := decide_eq_false (by omega)
      have hjl : j = l.length := by omega
      have hcv := own_string (P := Try.prog) (dst := 9) Try.underlying53 Try.underlying5 Try.underlying9 (Kd.own_of_R HO.out)
      have e : [next / 256 % 256, next % 256, (l.length : Int)] ++ tailL l j = encL l next := by
        rw [hjl, tailL_all, encL, show (l.length : Int) % 256 = l.length by omega]; simp [b2]
      rw [e] at hcv
      clear e hjl
      go_wp2
      exact bodyPost_ret (v := .tuple #[.string (strOfNums (encL l next)), .bool true]) (by simp [results, Try.results25, go_sem]) rfl ⟨rfl, HB.out⟩
theorem enc_no (k : Nat) (A : Option Addr) (c : Nat) (l : List Int) (next : Int) (w : World) (hr : Kd.C (Kd.int .i64) w A l.length l) (hc : l.length ≤ c) (h : list_may.f k l next = some false) :
    Calls Try.prog 25 #[.slice A l.length c, .int .i64 next] w fun e w' => e = .returned (.tuple #[.string ByteArray.empty, .bool false]) ∧ Below w.heap.size w w' := by
  have M := Lib.hid fun W (hb : Below w.heap.size w W) => list_may.calls k A c l next false W (Kd.C_below hr hb) hc h
  clear h
  have hC3 := Cm.Calm.refl w
  go_enter Try.func25, Try.ntmps25
  go_wp2_with fail
  refine (M.out _ hC3.below).mono ?_
  rintro e w1 ⟨rfl, hd⟩
  have hC4 : Cm.Calm w w1 := ⟨hd.below⟩
  clear hC3 hd
  go_wp2
  exact bodyPost_ret (v := .tuple #[.string ByteArray.empty, .bool false]) (by simp [results, Try.results25, go_sem]; rfl) rfl ⟨rfl, hC4.below⟩
end Go.Proofs.Ytbgojedhciimaaa.LisE
