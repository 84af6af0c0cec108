/-
  digest.Of, walked by hand.
-/
import Derived.Test.YtklakmooaffjpaaDoorPDgsx0
import Derived.Test.YtklakmooaffjpaaDoorDgsL
import Derived.Deep.MidRow
import Derived.Laws.Cover3
import Derived.RegionTactic
namespace Go.Proofs.YtklakmooaffjpaaDoor.DgsO
open Go.RowKit Go.Proofs.YtklakmooaffjpaaDoorW.PrintWords Go.Proofs.YtklakmooaffjpaaDoorW.PrintLast Go.Proofs.YtklakmooaffjpaaDoorW.PrintMore Go.Proofs.YtklakmooaffjpaaDoor.Cm Go.Proofs.YtklakmooaffjpaaDoor.Str Go.Proofs.YtklakmooaffjpaaDoor.DgsP Go.Proofs.YtklakmooaffjpaaDoor.DgsH Go.Proofs.YtklakmooaffjpaaDoor.DgsS Go.Proofs.YtklakmooaffjpaaDoor.DgsB Go.Proofs.YtklakmooaffjpaaDoor.DgsL Go.Proofs.YtklakmooaffjpaaDoor.PDgs
set_option linter.unusedVariables false
/-- Bytes as plain numbers. -/
def nat (l : List Int) : List Nat := l.map Int.toNat
theorem nat_len (l : List Int) : (nat l).length = l.length := by simp [nat]
theorem nat_lt {l : List Int} (h : R l) : ∀ x ∈ nat l, x < 256 := by
  intro x hx
  simp only [nat, List.mem_map] at hx
  obtain ⟨y, hy, rfl⟩ := hx
  have := h y hy
  omega
/-- A text is gone through, block by block. -/
def hsAt (t : List Int) : Nat → List Nat
  | 0 => beg
  | i + 1 => blockL (hsAt t i) (nat ((t.drop (64 * i)).take 64))
theorem hsAt_len (t : List Int) : ∀ i, (hsAt t i).length = 8
  | 0 => rfl
  | i + 1 => blockL_len _ _ (hsAt_len t i)
theorem beg_lt : ∀ x ∈ beg, x < M := by decide
theorem hsAt_lt (t : List Int) : ∀ i, ∀ x ∈ hsAt t i, x < M
  | 0 => beg_lt
  | i + 1 => blockL_lt _ _ (hsAt_lt t i)
/-- The text with what stands behind it. -/
def full (l : List Int) : List Int := l ++ padB l.length
theorem full_len (l : List Int) : (full l).length = l.length + (zr l.length + 9) := by rw [full, List.length_append, padB_len]
theorem full_64 (l : List Int) : (full l).length = 64 * ((full l).length / 64) := by have := zr_full l.length; rw [full_len]; omega
/-- The bytes of words. -/
def outB (h : List Nat) : List Int := h.flatMap fun x => [((x / 16777216 % 256 : Nat) : Int), ((x / 65536 % 256 : Nat) : Int), ((x / 256 % 256 : Nat) : Int), ((x % 256 : Nat) : Int)]
/-- A text's digest, in bytes. -/
def ofB (l : List Int) : List Int := outB (hsAt (full l) ((full l).length / 64))
theorem outB_len (h : List Nat) : (outB h).length = 4 * h.length := by
  induction h with
  | nil => rfl
  | cons x l ih => simp only [outB, List.flatMap_cons, List.length_append, List.length_cons, List.length_nil] at *; omega
theorem outB_take (h : List Nat) (i : Nat) (hi : i < h.length) : outB (h.take (i + 1)) = outB (h.take i) ++ [((h.getD i 0 / 16777216 % 256 : Nat) : Int), ((h.getD i 0 / 65536 % 256 : Nat) : Int), ((h.getD i 0 / 256 % 256 : Nat) : Int), ((h.getD i 0 % 256 : Nat) : Int)] := by
  have e : h.getD i 0 = h[i] := by simp [List.getD_eq_getElem?_getD, hi]
  rw [List.take_succ_eq_append_getElem hi, e, outB, List.flatMap_append, List.flatMap_cons, List.flatMap_nil, List.append_nil]
  rfl
/-- The length of a text. -/
def strLen : Value → Nat
  | .string s => s.size
  | _ => 0
section
variable {P : Program} {ops : Array Oper} {o : Oper} {a : Act} {w : World} {K : Act → World → Prop} {Q : Exit → Act → World → Prop}
/-- In a region that draws: a whole array is read. -/
theorem step_load_blk {N : Option Tmp} (hw : Region.wanted o (yielded ops a.tmps) = true) (hN : o.dst = N) (ty : TypeId) (x : Operand) (ho : o.op = .load ty x) (k : IntKind) (B : Nat) (l : List Nat) (t : TypeId) (d : TypeDesc) (hx : a.eval x = .pointer (some ⟨B, 0, none⟩)) (hB : Blk k w B t l)
    (hu : P.underlying ty = some d) (hd : (match d with | .struct _ | .array _ _ => true | _ => false) = true) (hi : (P.info? ty).map (·.size) = some l.length)
    (h : K (a.put N (.agg (vals k l))) w) : if Region.wanted o (yielded ops a.tmps) = true then Oper.wp P o a w K Q else K (a.put N undef) w := by
  refine value_ hw hN ?_ h
  unfold execOp
  simp only [ho, hx, Instr.loadAt, Instr.sureAddr, Sem.run_bind, Sem.run_pure, Result.andThen_ok, run_loadVar_row (P := P) w B t ty (vals k l) (0, 0) d hB hu hd (by rw [vals_size]; exact hi)]
theorem step_load_mid {N : Option Tmp} (hw : Region.wanted o (yielded ops a.tmps) = true) (hN : o.dst = N) (ty : TypeId) (x : Operand) (ho : o.op = .load ty x) (B : Nat) (cs : List Value) (d : TypeDesc) (hx : a.eval x = .pointer (some ⟨B, 0, none⟩)) (hB : w.rangeAt B 0 cs)
    (hu : P.underlying ty = some d) (hd : d.isRow = true) (hi : (P.info? ty).map (·.size) = some cs.length)
    (h : K (a.put N (.agg cs.toArray)) w) : if Region.wanted o (yielded ops a.tmps) = true then Oper.wp P o a w K Q else K (a.put N undef) w := by
  refine value_ hw hN ?_ h
  unfold execOp
  simp only [ho, hx, Instr.loadAt, Instr.sureAddr, Sem.run_bind, Sem.run_pure, Result.andThen_ok, run_loadVar_mid w B 0 ty cs d hB hu hd hi]
theorem step_convert {N : Option Tmp} (hw : Region.wanted o (yielded ops a.tmps) = true) (hN : o.dst = N) (src dst : TypeId) (x : Operand) (ho : o.op = .convert src dst x) (u : Value) (hx : a.eval x = u) {v : Value} {w1 : World} (hrun : (convert src dst u).run P w = .ok v w1)
    (h : K (a.put N v) w1) : if Region.wanted o (yielded ops a.tmps) = true then Oper.wp P o a w K Q else K (a.put N undef) w := by
  refine value_ hw hN ?_ h
  unfold execOp
  simp [ho, hx, hrun, Result.andThen]
theorem step_arrayAt {N : Option Tmp} (hw : Region.wanted o (yielded ops a.tmps) = true) (hN : o.dst = N) (t : TypeId) (x : Operand) (ho : o.op = .sliceToArrayPointer t x) (A : Option Addr) (l c : Nat) (hx : a.eval x = .slice A l c) (e : TypeId) (n : Nat) (hu : P.underlying t = some (.array n e)) (hl : n ≤ l)
    (h : K (a.put N (.pointer A)) w) : if Region.wanted o (yielded ops a.tmps) = true then Oper.wp P o a w K Q else K (a.put N undef) w := by
  refine value_ hw hN ?_ h
  unfold execOp
  simp [ho, hx, run_arrayAt (P := P) (w := w) t e n A l c hu hl, Result.andThen]
theorem step_store_blk (hw : Region.wanted o (yielded ops a.tmps) = true) (hN : o.dst = none) (ty : TypeId) (x y : Operand) (ho : o.op = .store ty x y) (k : IntKind) (B : Nat) (old l : List Nat) (t : TypeId) (hx : a.eval x = .pointer (some ⟨B, 0, none⟩)) (hy : a.eval y = .agg (vals k l)) (hB : Blk k w B t old)
    (hi : (P.info? ty).map (·.size) = some l.length) (hl : old.length = l.length)
    (h : K a (w.setRow B (vals k l))) : if Region.wanted o (yielded ops a.tmps) = true then Oper.wp P o a w K Q else K (a.put o.dst undef) w := by
  rw [if_pos hw]
  unfold Oper.wp execOp
  simp only [ho, hx, hy, Instr.storeAt, Instr.sureAddr, Sem.run_bind, Sem.run_pure, Result.andThen_ok, run_storeVar_row (P := P) w B t ty (vals k old) (vals k l) hB (by rw [vals_size]; exact hi) (by rw [vals_size, vals_size]; exact hl) (vals_one k l)]
  show K (a.put o.dst undef) _
  rw [hN]
  exact h
end
theorem Blk.bytes {k : IntKind} {w : World} {B : Nat} {t : TypeId} {l : List Nat} (h : Blk k w B t l) (e : TypeId) (s : ByteArray) : Blk k (Lib.bytesWorld w e s) B t l :=
  (Lib.bytesWorld_at_old w e s B (bL h)).trans h
theorem bytes_range (w : World) (e : TypeId) (s : ByteArray) : (Lib.bytesWorld w e s).rangeAt w.heap.size 0 (vals .u8 (nat (bytesOf s))).toList := by
  intro j v hv
  rw [Nat.zero_add]
  rw [Array.getElem?_toList] at hv
  have hj : j < (nat (bytesOf s)).length := by
    have h := (Array.getElem?_eq_some_iff.1 hv).1
    rwa [vals_size] at h
  have hjs : j < s.size := by rwa [nat_len, len_bytesOf] at hj
  rw [vals_get _ _ _ hj] at hv
  rw [Lib.bytesWorld_cell w e s j hjs, ← hv]
  congr 2
  have h' : j < s.data.toList.length := by rw [data_length]; exact hjs
  simp [nat, bytesOf, List.getD_eq_getElem?_getD, hjs]
theorem glob_range {w : World} (h : Glob w) : w.rangeAt 0 0 (vals .u32 beg).toList := by
  intro j v hv
  rw [Nat.zero_add]
  rw [Array.getElem?_toList] at hv
  have hj : j < beg.length := by
    have h := (Array.getElem?_eq_some_iff.1 hv).1
    rwa [vals_size] at h
  rw [vals_get _ _ _ hj] at hv
  rw [← hv]
  exact h.beg j hj
theorem C_lit (W : World) (e : TypeId) (k : IntKind) (xs : List Int) (hm : xs.length ≤ 9223372036854775807) : Kd.C (Kd.int k) (W.alloc (.cells (nums k xs).toArray e)) (some ⟨W.heap.size, 0, none⟩) xs.length xs := by
  have h := own_lit W 0 e k xs (Nat.zero_le _) hm
  exact (Kd.R_reads' (Kd.R_of_own (enc := Value.int k) (h1 := fun _ => rfl) (ok := fun _ => True) h (fun _ _ => trivial))).2.2
theorem info5 : (Tryd.prog.info? 5).map (fun i => (i.zero, i.size, i.bytes)) = some (some (.int .u8 0), 1, 1) := by kernel_rfl
theorem run_index_vals {P : Program} (W : World) {T e n : Nat} (hT : P.underlying T = some (.array n e)) (hA : ∀ W : World, (isAgg e).run P W = .ok false W) (hS : ∀ W : World, (sizeOf e).run P W = .ok 1 W)
    (xs : List Nat) (hl : xs.length = n) (k ki : IntKind) (j : Nat) (h1 : j < n) :
    (Instr.index T (.agg (vals k xs)) (.int ki (j : Int))).run P W = .ok (.int k (xs.getD j 0 : Nat)) W := by
  have hj : j < xs.length := by omega
  have h0 : (0 : Int) ≤ (j : Int) := by omega
  have h2 : ¬ n ≤ j := by omega
  simp [Instr.index, run_underlying hT, asIntOf, h0, h1, part, hA, hS, go_sem, vals, hj]
set_option maxRecDepth 100000 in
set_option maxHeartbeats 4000000 in
theorem of_c (s : ByteArray) (hs : s.size ≤ 1000000) (w : World) (hG : Glob w) : Calls Tryd.prog 18 #[.string s] w fun e w' => e = .returned (.string (strOfNums (ofB (bytesOf s)))) ∧ Below w.heap.size w w' := by
  have CP := Lib.hid fun W => digest_Pad.calls 9 (s.size : Int) _ W (pad_eq s.size (by omega) _ (by unfold mx; split <;> omega))
  have HG := Lib.hid hG
  have Hs := Lib.hid hs
  clear hs hG
  obtain ⟨B0, hB0⟩ : ∃ B, B = w.heap.size := ⟨_, rfl⟩
  have HB0 := Lib.hid hB0
  clear hB0
  go_enter Tryd.func18, Tryd.ntmps18
  go_wp2_with fail
  refine (CP.out _).mono ?_
  rintro e w1 ⟨rfl, hB1⟩
  clear CP
  obtain ⟨u, hu⟩ : ∃ u, u = s ++ strOfNums (padB s.size) := ⟨_, rfl⟩
  have hub : bytesOf u = full (bytesOf s) := by rw [hu, bytes_app, bytes_str _ (R_padB _), full, len_bytesOf]
  have g1 := HG.out.below hB1
  have grng := glob_range g1
  have hbel := Lib.hid hB1
  clear hB1
  have huz : u.size = 64 * ((full (bytesOf s)).length / 64) := by rw [← full_64, ← hub, len_bytesOf]
  obtain ⟨T, hT⟩ : ∃ T, T = full (bytesOf s) := ⟨_, rfl⟩
  obtain ⟨n, hn⟩ : ∃ n, n = T.length / 64 := ⟨_, rfl⟩
  rw [← hT] at hub huz
  rw [← hn] at huz
  have HN := Lib.hid hn
  have HT := Lib.hid hT
  have HU := Lib.hid hu
  have HUB := Lib.hid hub
  have HUZ := Lib.hid huz
  have hun : n ≤ 100000 := by
    have h1 := full_len (bytesOf s); have h2 := len_bytesOf s; have h3 := Hs.out; have h4 : zr (bytesOf s).length ≤ 63 := by unfold zr; omega
    rw [hn, hT]; omega
  have hcat : s.size + (strOfNums (padB s.size)).size ≤ 9223372036854775807 := by
    have h3 := Hs.out
    have h4 : zr s.size ≤ 63 := by unfold zr; omega
    rw [str_size, padB_len]; omega
  clear hn hT hu hub huz
  go_wp2_with (first | ((with_reducible refine gD (N := 12) rfl ?_); refine wpList_load_mid rfl 60 (.global 0) rfl 0 0 rfl (vals .u32 beg).toList _ grng Tryd.underlying60 rfl size_eight ?_) | ((with_reducible refine gS (p := 3) rfl ?_); refine wpList_store_blk rfl 60 (.tmp 3) (.tmp 12) rfl .u32 w1.heap.size (List.replicate 8 0) beg 60 rfl rfl (blk_new _ _) size_eight rfl ?_))
  rw [← HU.out]
  obtain ⟨B, hB⟩ : ∃ B, B = w1.heap.size := ⟨_, rfl⟩
  rw [← hB]
  generalize hW : (World.setRow (World.alloc w1 _) B (vals .u32 beg)) = w2
  have kb : Blk .u32 w2 B 60 (hsAt T 0) := by rw [← hW, hB]; exact Blk.row (old := List.replicate 8 0) (blk_new _ _)
  have kB : Below B0 w w2 := by rw [← hW, HB0.out]; exact below_setRow (Below.alloc hbel.out hbel.out.size _) (by rw [hB]; exact hbel.out.size) _
  have l0 : B0 ≤ B := by rw [HB0.out, hB]; exact hbel.out.size
  clear hW hB grng g1 hbel
  simp only [Act.put]
  go_loopw [0] (fun v0 w' => ∃ (i : Nat) (u : ByteArray), v0 = .string u ∧ A0_ (i ≤ n) ∧ A0_ (bytesOf u = T.drop (64 * i)) ∧ A0_ (u.size = 64 * (n - i)) ∧ A0_ (Blk .u32 w' B 60 (hsAt T i)) ∧ A0_ (Below B0 w w')) (fun v0 _ => strLen v0)
  case atStart => exact ⟨0, u, rfl, ⟨by omega⟩, ⟨HUB.out⟩, ⟨HUZ.out⟩, ⟨kb⟩, ⟨kB⟩⟩
  case round =>
    clear kb kB HU HUB HUZ
    obtain ⟨i, x, rfl, hi, hx, hz, kb, kB⟩ := hrel
    by_cases hlt : i < n
    · have hz64 : 64 ≤ x.size := by rw [hz.out]; omega
      have q1 : (64 : Int) ≤ (x.size : Int) := by omega
      have q2 : (x.size : Int) ≤ 9223372036854775807 := by have := hz.out; omega
      have hne : ¬ x.toList = [] := by
        rw [toList_nil, ← List.length_eq_zero_iff, len_bytesOf]; omega
      have hnb : x.toList.isEmpty = false := by cases h : x.toList with | nil => exact absurd h hne | cons _ _ => rfl
      have hyb : bytesOf (x.extract 0 64) = (T.drop (64 * i)).take 64 := by rw [bytes_extract, hx.out]; rfl
      have hyl : (nat (bytesOf (x.extract 0 64))).length = 64 := by rw [nat_len, hyb, ← hx.out, List.length_take, len_bytesOf]; omega
      have hy64 : (x.extract 0 64).size = 64 := by rw [← len_bytesOf, ← nat_len]; exact hyl
      have HYB := Lib.hid hyb
      have HYL := Lib.hid hyl
      have HY64 := Lib.hid hy64
      have CB := Lib.hid fun W (hb : Below B0 w W) => block_c (hsAt T i) (nat (bytesOf (x.extract 0 64))) (hsAt_len T i) (hsAt_lt T i) hyl (nat_lt (R_bytesOf _)) W (HG.out.below (by rw [← HB0.out]; exact hb))
      have HL := Lib.hid (hsAt_len T i)
      have CX := Lib.hid (show bytesOf (x.extract 64 x.size) = T.drop (64 * (i + 1)) by rw [bytes_extract, hx.out, List.take_of_length_le (by rw [← hx.out, len_bytesOf]; omega), List.drop_drop]; rfl)
      have CZ := Lib.hid (show (x.extract 64 x.size).size = 64 * (n - (i + 1)) by rw [ByteArray.size_extract, hz.out]; omega)
      have CH := Lib.hid (show hsAt T (i + 1) = blockL (hsAt T i) (nat (bytesOf (x.extract 0 64))) by rw [hsAt, hyb])
      clear hyb hyl hy64
      go_wp2
      refine wp_region_any (by kernel_rfl) ?_
      change wpAny _ _ _ _ _ _ _ (World.drew _)
      have kb1 : Blk .u32 wr.drew B 60 (hsAt T i) := kb.out
      have kB1 : Below B0 w wr.drew := kB.out.drew
      clear kb kB
      generalize wr.drew = W at kb1 kB1 ⊢
      have hbB : B < W.heap.size := bL kb1
      have KB1 := Lib.hid kb1
      have KBB := Lib.hid kB1
      have kcv := Lib.hid fun W => print_bytes (P := Tryd.prog) 9 42 5 Tryd.underlying9 Tryd.underlying42 Tryd.underlying5 (x.extract 0 64) W
      clear kb1 kB1
      refine wpAny_ready (rs := [0, 1]) (by kernel_rfl) (by simp) (AllReady.cons rfl (fun K hK => ?_) (AllReady.cons rfl (fun K hK => ?_) AllReady.nil))
      · refine step_load_blk (N := some 17) (by rfl) rfl 60 (.tmp 3) rfl .u32 B (hsAt T i) 60 _ rfl (by first | exact KB1.out | exact Blk.bytes KB1.out _ _) Tryd.underlying60 rfl (by rw [HL.out]; exact size_eight) ?_
        simp only [Act.put, List.setIfInBounds_toArray, List.set_cons_zero, List.set_cons_succ]
        refine hK _ _ ?_
        clear hK K
        refine wpAny_ready (rs := [1]) (by kernel_rfl) (by simp) (AllReady.cons rfl (fun K hK => ?_) AllReady.nil)
        go_simp
        refine hK _ _ ?_
        clear hK K
        refine wpAny_ready (rs := [2]) (by kernel_rfl) (by simp) (AllReady.cons rfl (fun K hK => ?_) AllReady.nil)
        go_simp
        refine hK _ _ ?_
        clear hK K
        refine wpAny_ready (rs := [3]) (by kernel_rfl) (by simp) (AllReady.cons rfl (fun K hK => ?_) AllReady.nil)
        refine step_convert (N := some 20) (by rfl) rfl 9 42 (.tmp 19) rfl (.string (x.extract 0 64)) rfl (kcv.out W) ?_
        simp only [Act.put, List.setIfInBounds_toArray, List.set_cons_zero, List.set_cons_succ]
        refine hK _ _ ?_
        clear hK K
        refine wpAny_ready (rs := [4]) (by kernel_rfl) (by simp) (AllReady.cons rfl (fun K hK => ?_) AllReady.nil)
        refine step_arrayAt (N := some 21) (by rfl) rfl 62 (.tmp 20) rfl (some ⟨W.heap.size, 0, none⟩) _ _ rfl _ 64 Tryd.underlying62 (by rw [HY64.out]; decide) ?_
        simp only [Act.put, List.setIfInBounds_toArray, List.set_cons_zero, List.set_cons_succ]
        refine hK _ _ ?_
        clear hK K
        refine wpAny_ready (rs := [5]) (by kernel_rfl) (by simp) (AllReady.cons rfl (fun K hK => ?_) AllReady.nil)
        refine step_load_mid (N := some 22) (by rfl) rfl 62 (.tmp 21) rfl W.heap.size (vals .u8 (nat (bytesOf (x.extract 0 64)))).toList _ rfl (bytes_range _ _ _) Tryd.underlying62 rfl (by rw [Array.length_toList, vals_size, HYL.out]; exact size_bytes) ?_
        simp only [Act.put, List.setIfInBounds_toArray, List.set_cons_zero, List.set_cons_succ, Array.toArray_toList]
        refine hK _ _ ?_
        clear hK K
        refine wpAny_ready (rs := [6]) (by kernel_rfl) (by simp) (AllReady.cons rfl (fun K hK => ?_) AllReady.nil)
        refine goes_ (N := some 23) Tryd.func34 (by kernel_rfl) rfl #[.agg (vals .u32 (hsAt T i)), .agg (vals .u8 (nat (bytesOf (x.extract 0 64))))] (by rfl) rfl rfl (by simp only [List.map_toArray, List.map_cons, List.map_nil]; rfl) ?_
        refine (CB.out _ (bytes_below KBB.out (by omega) _ _)).mono ?_
        rintro e w7 ⟨rfl, hb7⟩
        refine ⟨_, rfl, ?_⟩
        simp only [Act.put, List.setIfInBounds_toArray, List.set_cons_zero, List.set_cons_succ]
        refine hK _ _ ?_
        clear hK K
        refine wpAny_ready (rs := [7]) (by kernel_rfl) (by simp) (AllReady.cons rfl (fun K hK => ?_) AllReady.nil)
        refine step_store_blk (by rfl) rfl 60 (.tmp 3) (.tmp 23) rfl .u32 B (hsAt T i) (blockL (hsAt T i) (nat (bytesOf (x.extract 0 64)))) 60 rfl rfl ((Blk.bytes KB1.out _ _).below hb7) (by rw [blockL_len _ _ HL.out]; exact size_eight) (by rw [blockL_len _ _ HL.out, HL.out]) ?_
        refine hK _ _ ?_
        clear hK K
        refine wpAny_done (by kernel_rfl) ?_ _
        go_wp2
        exact ⟨⟨i + 1, x.extract 64 x.size, by (first | rfl | simp), ⟨by omega⟩, ⟨CX.out⟩, ⟨CZ.out⟩, ⟨by rw [CH.out]; exact Blk.row (old := hsAt T i) ((Blk.bytes KB1.out _ _).below hb7)⟩, ⟨below_setRow ((bytes_below KBB.out (by omega) _ _).trans (hb7.mono (by rw [Lib.bytesWorld_size]; omega))) l0 _⟩⟩, by simp [strLen]; omega⟩
      · go_simp
        refine hK _ _ ?_
        clear hK K
        refine wpAny_ready (rs := [0, 2]) (by kernel_rfl) (by simp) (AllReady.cons rfl (fun K hK => ?_) (AllReady.cons rfl (fun K hK => ?_) AllReady.nil))
        · refine step_load_blk (N := some 17) (by rfl) rfl 60 (.tmp 3) rfl .u32 B (hsAt T i) 60 _ rfl (by first | exact KB1.out | exact Blk.bytes KB1.out _ _) Tryd.underlying60 rfl (by rw [HL.out]; exact size_eight) ?_
          simp only [Act.put, List.setIfInBounds_toArray, List.set_cons_zero, List.set_cons_succ]
          refine hK _ _ ?_
          clear hK K
          refine wpAny_ready (rs := [2]) (by kernel_rfl) (by simp) (AllReady.cons rfl (fun K hK => ?_) AllReady.nil)
          go_simp
          refine hK _ _ ?_
          clear hK K
          refine wpAny_ready (rs := [3]) (by kernel_rfl) (by simp) (AllReady.cons rfl (fun K hK => ?_) AllReady.nil)
          refine step_convert (N := some 20) (by rfl) rfl 9 42 (.tmp 19) rfl (.string (x.extract 0 64)) rfl (kcv.out W) ?_
          simp only [Act.put, List.setIfInBounds_toArray, List.set_cons_zero, List.set_cons_succ]
          refine hK _ _ ?_
          clear hK K
          refine wpAny_ready (rs := [4]) (by kernel_rfl) (by simp) (AllReady.cons rfl (fun K hK => ?_) AllReady.nil)
          refine step_arrayAt (N := some 21) (by rfl) rfl 62 (.tmp 20) rfl (some ⟨W.heap.size, 0, none⟩) _ _ rfl _ 64 Tryd.underlying62 (by rw [HY64.out]; decide) ?_
          simp only [Act.put, List.setIfInBounds_toArray, List.set_cons_zero, List.set_cons_succ]
          refine hK _ _ ?_
          clear hK K
          refine wpAny_ready (rs := [5]) (by kernel_rfl) (by simp) (AllReady.cons rfl (fun K hK => ?_) AllReady.nil)
          refine step_load_mid (N := some 22) (by rfl) rfl 62 (.tmp 21) rfl W.heap.size (vals .u8 (nat (bytesOf (x.extract 0 64)))).toList _ rfl (bytes_range _ _ _) Tryd.underlying62 rfl (by rw [Array.length_toList, vals_size, HYL.out]; exact size_bytes) ?_
          simp only [Act.put, List.setIfInBounds_toArray, List.set_cons_zero, List.set_cons_succ, Array.toArray_toList]
          refine hK _ _ ?_
          clear hK K
          refine wpAny_ready (rs := [6]) (by kernel_rfl) (by simp) (AllReady.cons rfl (fun K hK => ?_) AllReady.nil)
          refine goes_ (N := some 23) Tryd.func34 (by kernel_rfl) rfl #[.agg (vals .u32 (hsAt T i)), .agg (vals .u8 (nat (bytesOf (x.extract 0 64))))] (by rfl) rfl rfl (by simp only [List.map_toArray, List.map_cons, List.map_nil]; rfl) ?_
          refine (CB.out _ (bytes_below KBB.out (by omega) _ _)).mono ?_
          rintro e w7 ⟨rfl, hb7⟩
          refine ⟨_, rfl, ?_⟩
          simp only [Act.put, List.setIfInBounds_toArray, List.set_cons_zero, List.set_cons_succ]
          refine hK _ _ ?_
          clear hK K
          refine wpAny_ready (rs := [7]) (by kernel_rfl) (by simp) (AllReady.cons rfl (fun K hK => ?_) AllReady.nil)
          refine step_store_blk (by rfl) rfl 60 (.tmp 3) (.tmp 23) rfl .u32 B (hsAt T i) (blockL (hsAt T i) (nat (bytesOf (x.extract 0 64)))) 60 rfl rfl ((Blk.bytes KB1.out _ _).below hb7) (by rw [blockL_len _ _ HL.out]; exact size_eight) (by rw [blockL_len _ _ HL.out, HL.out]) ?_
          refine hK _ _ ?_
          clear hK K
          refine wpAny_done (by kernel_rfl) ?_ _
          go_wp2
          exact ⟨⟨i + 1, x.extract 64 x.size, by (first | rfl | simp), ⟨by omega⟩, ⟨CX.out⟩, ⟨CZ.out⟩, ⟨by rw [CH.out]; exact Blk.row (old := hsAt T i) ((Blk.bytes KB1.out _ _).below hb7)⟩, ⟨below_setRow ((bytes_below KBB.out (by omega) _ _).trans (hb7.mono (by rw [Lib.bytesWorld_size]; omega))) l0 _⟩⟩, by simp [strLen]; omega⟩
        · go_simp
          refine hK _ _ ?_
          clear hK K
          refine wpAny_ready (rs := [0, 3]) (by kernel_rfl) (by simp) (AllReady.cons rfl (fun K hK => ?_) (AllReady.cons rfl (fun K hK => ?_) AllReady.nil))
          · refine step_load_blk (N := some 17) (by rfl) rfl 60 (.tmp 3) rfl .u32 B (hsAt T i) 60 _ rfl (by first | exact KB1.out | exact Blk.bytes KB1.out _ _) Tryd.underlying60 rfl (by rw [HL.out]; exact size_eight) ?_
            simp only [Act.put, List.setIfInBounds_toArray, List.set_cons_zero, List.set_cons_succ]
            refine hK _ _ ?_
            clear hK K
            refine wpAny_ready (rs := [3]) (by kernel_rfl) (by simp) (AllReady.cons rfl (fun K hK => ?_) AllReady.nil)
            refine step_convert (N := some 20) (by rfl) rfl 9 42 (.tmp 19) rfl (.string (x.extract 0 64)) rfl (kcv.out W) ?_
            simp only [Act.put, List.setIfInBounds_toArray, List.set_cons_zero, List.set_cons_succ]
            refine hK _ _ ?_
            clear hK K
            refine wpAny_ready (rs := [4]) (by kernel_rfl) (by simp) (AllReady.cons rfl (fun K hK => ?_) AllReady.nil)
            refine step_arrayAt (N := some 21) (by rfl) rfl 62 (.tmp 20) rfl (some ⟨W.heap.size, 0, none⟩) _ _ rfl _ 64 Tryd.underlying62 (by rw [HY64.out]; decide) ?_
            simp only [Act.put, List.setIfInBounds_toArray, List.set_cons_zero, List.set_cons_succ]
            refine hK _ _ ?_
            clear hK K
            refine wpAny_ready (rs := [5]) (by kernel_rfl) (by simp) (AllReady.cons rfl (fun K hK => ?_) AllReady.nil)
            refine step_load_mid (N := some 22) (by rfl) rfl 62 (.tmp 21) rfl W.heap.size (vals .u8 (nat (bytesOf (x.extract 0 64)))).toList _ rfl (bytes_range _ _ _) Tryd.underlying62 rfl (by rw [Array.length_toList, vals_size, HYL.out]; exact size_bytes) ?_
            simp only [Act.put, List.setIfInBounds_toArray, List.set_cons_zero, List.set_cons_succ, Array.toArray_toList]
            refine hK _ _ ?_
            clear hK K
            refine wpAny_ready (rs := [6]) (by kernel_rfl) (by simp) (AllReady.cons rfl (fun K hK => ?_) AllReady.nil)
            refine goes_ (N := some 23) Tryd.func34 (by kernel_rfl) rfl #[.agg (vals .u32 (hsAt T i)), .agg (vals .u8 (nat (bytesOf (x.extract 0 64))))] (by rfl) rfl rfl (by simp only [List.map_toArray, List.map_cons, List.map_nil]; rfl) ?_
            refine (CB.out _ (bytes_below KBB.out (by omega) _ _)).mono ?_
            rintro e w7 ⟨rfl, hb7⟩
            refine ⟨_, rfl, ?_⟩
            simp only [Act.put, List.setIfInBounds_toArray, List.set_cons_zero, List.set_cons_succ]
            refine hK _ _ ?_
            clear hK K
            refine wpAny_ready (rs := [7]) (by kernel_rfl) (by simp) (AllReady.cons rfl (fun K hK => ?_) AllReady.nil)
            refine step_store_blk (by rfl) rfl 60 (.tmp 3) (.tmp 23) rfl .u32 B (hsAt T i) (blockL (hsAt T i) (nat (bytesOf (x.extract 0 64)))) 60 rfl rfl ((Blk.bytes KB1.out _ _).below hb7) (by rw [blockL_len _ _ HL.out]; exact size_eight) (by rw [blockL_len _ _ HL.out, HL.out]) ?_
            refine hK _ _ ?_
            clear hK K
            refine wpAny_done (by kernel_rfl) ?_ _
            go_wp2
            exact ⟨⟨i + 1, x.extract 64 x.size, by (first | rfl | simp), ⟨by omega⟩, ⟨CX.out⟩, ⟨CZ.out⟩, ⟨by rw [CH.out]; exact Blk.row (old := hsAt T i) ((Blk.bytes KB1.out _ _).below hb7)⟩, ⟨below_setRow ((bytes_below KBB.out (by omega) _ _).trans (hb7.mono (by rw [Lib.bytesWorld_size]; omega))) l0 _⟩⟩, by simp [strLen]; omega⟩
          · refine step_convert (N := some 20) (by rfl) rfl 9 42 (.tmp 19) rfl (.string (x.extract 0 64)) rfl (kcv.out W) ?_
            simp only [Act.put, List.setIfInBounds_toArray, List.set_cons_zero, List.set_cons_succ]
            refine hK _ _ ?_
            clear hK K
            refine wpAny_ready (rs := [0, 4]) (by kernel_rfl) (by simp) (AllReady.cons rfl (fun K hK => ?_) (AllReady.cons rfl (fun K hK => ?_) AllReady.nil))
            · refine step_load_blk (N := some 17) (by rfl) rfl 60 (.tmp 3) rfl .u32 B (hsAt T i) 60 _ rfl (by first | exact KB1.out | exact Blk.bytes KB1.out _ _) Tryd.underlying60 rfl (by rw [HL.out]; exact size_eight) ?_
              simp only [Act.put, List.setIfInBounds_toArray, List.set_cons_zero, List.set_cons_succ]
              refine hK _ _ ?_
              clear hK K
              refine wpAny_ready (rs := [4]) (by kernel_rfl) (by simp) (AllReady.cons rfl (fun K hK => ?_) AllReady.nil)
              refine step_arrayAt (N := some 21) (by rfl) rfl 62 (.tmp 20) rfl (some ⟨W.heap.size, 0, none⟩) _ _ rfl _ 64 Tryd.underlying62 (by rw [HY64.out]; decide) ?_
              simp only [Act.put, List.setIfInBounds_toArray, List.set_cons_zero, List.set_cons_succ]
              refine hK _ _ ?_
              clear hK K
              refine wpAny_ready (rs := [5]) (by kernel_rfl) (by simp) (AllReady.cons rfl (fun K hK => ?_) AllReady.nil)
              refine step_load_mid (N := some 22) (by rfl) rfl 62 (.tmp 21) rfl W.heap.size (vals .u8 (nat (bytesOf (x.extract 0 64)))).toList _ rfl (bytes_range _ _ _) Tryd.underlying62 rfl (by rw [Array.length_toList, vals_size, HYL.out]; exact size_bytes) ?_
              simp only [Act.put, List.setIfInBounds_toArray, List.set_cons_zero, List.set_cons_succ, Array.toArray_toList]
              refine hK _ _ ?_
              clear hK K
              refine wpAny_ready (rs := [6]) (by kernel_rfl) (by simp) (AllReady.cons rfl (fun K hK => ?_) AllReady.nil)
              refine goes_ (N := some 23) Tryd.func34 (by kernel_rfl) rfl #[.agg (vals .u32 (hsAt T i)), .agg (vals .u8 (nat (bytesOf (x.extract 0 64))))] (by rfl) rfl rfl (by simp only [List.map_toArray, List.map_cons, List.map_nil]; rfl) ?_
              refine (CB.out _ (bytes_below KBB.out (by omega) _ _)).mono ?_
              rintro e w7 ⟨rfl, hb7⟩
              refine ⟨_, rfl, ?_⟩
              simp only [Act.put, List.setIfInBounds_toArray, List.set_cons_zero, List.set_cons_succ]
              refine hK _ _ ?_
              clear hK K
              refine wpAny_ready (rs := [7]) (by kernel_rfl) (by simp) (AllReady.cons rfl (fun K hK => ?_) AllReady.nil)
              refine step_store_blk (by rfl) rfl 60 (.tmp 3) (.tmp 23) rfl .u32 B (hsAt T i) (blockL (hsAt T i) (nat (bytesOf (x.extract 0 64)))) 60 rfl rfl ((Blk.bytes KB1.out _ _).below hb7) (by rw [blockL_len _ _ HL.out]; exact size_eight) (by rw [blockL_len _ _ HL.out, HL.out]) ?_
              refine hK _ _ ?_
              clear hK K
              refine wpAny_done (by kernel_rfl) ?_ _
              go_wp2
              exact ⟨⟨i + 1, x.extract 64 x.size, by (first | rfl | simp), ⟨by omega⟩, ⟨CX.out⟩, ⟨CZ.out⟩, ⟨by rw [CH.out]; exact Blk.row (old := hsAt T i) ((Blk.bytes KB1.out _ _).below hb7)⟩, ⟨below_setRow ((bytes_below KBB.out (by omega) _ _).trans (hb7.mono (by rw [Lib.bytesWorld_size]; omega))) l0 _⟩⟩, by simp [strLen]; omega⟩
            · refine step_arrayAt (N := some 21) (by rfl) rfl 62 (.tmp 20) rfl (some ⟨W.heap.size, 0, none⟩) _ _ rfl _ 64 Tryd.underlying62 (by rw [HY64.out]; decide) ?_
              simp only [Act.put, List.setIfInBounds_toArray, List.set_cons_zero, List.set_cons_succ]
              refine hK _ _ ?_
              clear hK K
              refine wpAny_ready (rs := [0, 5]) (by kernel_rfl) (by simp) (AllReady.cons rfl (fun K hK => ?_) (AllReady.cons rfl (fun K hK => ?_) AllReady.nil))
              · refine step_load_blk (N := some 17) (by rfl) rfl 60 (.tmp 3) rfl .u32 B (hsAt T i) 60 _ rfl (by first | exact KB1.out | exact Blk.bytes KB1.out _ _) Tryd.underlying60 rfl (by rw [HL.out]; exact size_eight) ?_
                simp only [Act.put, List.setIfInBounds_toArray, List.set_cons_zero, List.set_cons_succ]
                refine hK _ _ ?_
                clear hK K
                refine wpAny_ready (rs := [5]) (by kernel_rfl) (by simp) (AllReady.cons rfl (fun K hK => ?_) AllReady.nil)
                refine step_load_mid (N := some 22) (by rfl) rfl 62 (.tmp 21) rfl W.heap.size (vals .u8 (nat (bytesOf (x.extract 0 64)))).toList _ rfl (bytes_range _ _ _) Tryd.underlying62 rfl (by rw [Array.length_toList, vals_size, HYL.out]; exact size_bytes) ?_
                simp only [Act.put, List.setIfInBounds_toArray, List.set_cons_zero, List.set_cons_succ, Array.toArray_toList]
                refine hK _ _ ?_
                clear hK K
                refine wpAny_ready (rs := [6]) (by kernel_rfl) (by simp) (AllReady.cons rfl (fun K hK => ?_) AllReady.nil)
                refine goes_ (N := some 23) Tryd.func34 (by kernel_rfl) rfl #[.agg (vals .u32 (hsAt T i)), .agg (vals .u8 (nat (bytesOf (x.extract 0 64))))] (by rfl) rfl rfl (by simp only [List.map_toArray, List.map_cons, List.map_nil]; rfl) ?_
                refine (CB.out _ (bytes_below KBB.out (by omega) _ _)).mono ?_
                rintro e w7 ⟨rfl, hb7⟩
                refine ⟨_, rfl, ?_⟩
                simp only [Act.put, List.setIfInBounds_toArray, List.set_cons_zero, List.set_cons_succ]
                refine hK _ _ ?_
                clear hK K
                refine wpAny_ready (rs := [7]) (by kernel_rfl) (by simp) (AllReady.cons rfl (fun K hK => ?_) AllReady.nil)
                refine step_store_blk (by rfl) rfl 60 (.tmp 3) (.tmp 23) rfl .u32 B (hsAt T i) (blockL (hsAt T i) (nat (bytesOf (x.extract 0 64)))) 60 rfl rfl ((Blk.bytes KB1.out _ _).below hb7) (by rw [blockL_len _ _ HL.out]; exact size_eight) (by rw [blockL_len _ _ HL.out, HL.out]) ?_
                refine hK _ _ ?_
                clear hK K
                refine wpAny_done (by kernel_rfl) ?_ _
                go_wp2
                exact ⟨⟨i + 1, x.extract 64 x.size, by (first | rfl | simp), ⟨by omega⟩, ⟨CX.out⟩, ⟨CZ.out⟩, ⟨by rw [CH.out]; exact Blk.row (old := hsAt T i) ((Blk.bytes KB1.out _ _).below hb7)⟩, ⟨below_setRow ((bytes_below KBB.out (by omega) _ _).trans (hb7.mono (by rw [Lib.bytesWorld_size]; omega))) l0 _⟩⟩, by simp [strLen]; omega⟩
              · refine step_load_mid (N := some 22) (by rfl) rfl 62 (.tmp 21) rfl W.heap.size (vals .u8 (nat (bytesOf (x.extract 0 64)))).toList _ rfl (bytes_range _ _ _) Tryd.underlying62 rfl (by rw [Array.length_toList, vals_size, HYL.out]; exact size_bytes) ?_
                simp only [Act.put, List.setIfInBounds_toArray, List.set_cons_zero, List.set_cons_succ, Array.toArray_toList]
                refine hK _ _ ?_
                clear hK K
                refine wpAny_ready (rs := [0]) (by kernel_rfl) (by simp) (AllReady.cons rfl (fun K hK => ?_) AllReady.nil)
                refine step_load_blk (N := some 17) (by rfl) rfl 60 (.tmp 3) rfl .u32 B (hsAt T i) 60 _ rfl (by first | exact KB1.out | exact Blk.bytes KB1.out _ _) Tryd.underlying60 rfl (by rw [HL.out]; exact size_eight) ?_
                simp only [Act.put, List.setIfInBounds_toArray, List.set_cons_zero, List.set_cons_succ]
                refine hK _ _ ?_
                clear hK K
                refine wpAny_ready (rs := [6]) (by kernel_rfl) (by simp) (AllReady.cons rfl (fun K hK => ?_) AllReady.nil)
                refine goes_ (N := some 23) Tryd.func34 (by kernel_rfl) rfl #[.agg (vals .u32 (hsAt T i)), .agg (vals .u8 (nat (bytesOf (x.extract 0 64))))] (by rfl) rfl rfl (by simp only [List.map_toArray, List.map_cons, List.map_nil]; rfl) ?_
                refine (CB.out _ (bytes_below KBB.out (by omega) _ _)).mono ?_
                rintro e w7 ⟨rfl, hb7⟩
                refine ⟨_, rfl, ?_⟩
                simp only [Act.put, List.setIfInBounds_toArray, List.set_cons_zero, List.set_cons_succ]
                refine hK _ _ ?_
                clear hK K
                refine wpAny_ready (rs := [7]) (by kernel_rfl) (by simp) (AllReady.cons rfl (fun K hK => ?_) AllReady.nil)
                refine step_store_blk (by rfl) rfl 60 (.tmp 3) (.tmp 23) rfl .u32 B (hsAt T i) (blockL (hsAt T i) (nat (bytesOf (x.extract 0 64)))) 60 rfl rfl ((Blk.bytes KB1.out _ _).below hb7) (by rw [blockL_len _ _ HL.out]; exact size_eight) (by rw [blockL_len _ _ HL.out, HL.out]) ?_
                refine hK _ _ ?_
                clear hK K
                refine wpAny_done (by kernel_rfl) ?_ _
                go_wp2
                exact ⟨⟨i + 1, x.extract 64 x.size, by (first | rfl | simp), ⟨by omega⟩, ⟨CX.out⟩, ⟨CZ.out⟩, ⟨by rw [CH.out]; exact Blk.row (old := hsAt T i) ((Blk.bytes KB1.out _ _).below hb7)⟩, ⟨below_setRow ((bytes_below KBB.out (by omega) _ _).trans (hb7.mono (by rw [Lib.bytesWorld_size]; omega))) l0 _⟩⟩, by simp [strLen]; omega⟩
    · have hin : i = n := by have := hi.out; omega
      have hx0 : x.toList = [] := by
        rw [toList_nil, ← List.length_eq_zero_iff, len_bytesOf, hz.out]; omega
      rw [hin] at kb
      obtain ⟨H, hH⟩ : ∃ H, H = hsAt T n := ⟨_, rfl⟩
      have hHl : H.length = 8 := by rw [hH]; exact hsAt_len T n
      have hHM : ∀ x ∈ H, x < M := by rw [hH]; exact hsAt_lt T n
      rw [← hH] at kb
      have HH := Lib.hid hH
      have HHL := Lib.hid hHl
      have HHM := Lib.hid hHM
      clear hin hx hz hi hlt hH hHl hHM
      go_wp2_with ((with_reducible refine gD (N := 24) rfl ?_); refine wpList_load_blk rfl 60 (.tmp 3) rfl .u32 B H 60 _ rfl kb.out Tryd.underlying60 rfl (by rw [HHL.out]; exact size_eight) ?_)
      go_loopw [4, 25] (fun v4 v25 w' => ∃ (j : Nat), v25 = .int .i64 (j : Nat) ∧ A0_ (j ≤ 8) ∧ A0_ (Kd.R (Kd.int .u8) 5 w' B0 (fun _ => True) v4 (outB (H.take j))) ∧ A0_ (Below B0 w w')) (fun _ v25 _ => (8 - intOf v25).toNat)
      case atStart => exact ⟨0, rfl, ⟨by omega⟩, ⟨Kd.R_nil _ _ _ _ _⟩, kB⟩
      case round =>
        clear kb kB
        obtain ⟨j, rfl, hj, hR, kB⟩ := hrel
        obtain ⟨A4, c4, rfl⟩ := Kd.R_slice hR.out
        by_cases hlt : j < 8
        · have p1 : decide ((j : Int) < 8) = true := decide_eq_true (by omega)
          have hidx := fun W => run_index_vals (P := Tryd.prog) W Tryd.underlying60 Tryd.isAgg59 Tryd.sizeOf59 H HHL.out .u32 .i64 j hlt
          obtain ⟨y, hy⟩ : ∃ y, y = H.getD j 0 := ⟨_, rfl⟩
          have hyM : y < 4294967296 := by rw [hy]; exact getD_lt HHM.out (by decide) j
          have hout := outB_take H j (by rw [HHL.out]; exact hlt)
          have hol := outB_len (H.take j)
          rw [← hy] at hidx hout
          have hlen : (outB (H.take j)).length ≤ 32 := by rw [hol, List.length_take]; omega
          have HO := Lib.hid hout
          have HLEN := Lib.hid hlen
          obtain ⟨L, hL⟩ : ∃ L, L = outB (H.take j) := ⟨_, rfl⟩
          rw [← hL] at HO HLEN
          rw [← hL] at hR ⊢
          clear hout hlen hy hol hL
          have hsz : B0 ≤ wr.heap.size := by rw [HB0.out]; exact kB.out.size
          have HO2 : Hid (outB (H.take (j + 1)) = L ++ [(y : Int) / 16777216, (y : Int) / 65536 % 256, (y : Int) / 256 % 256, (y : Int) % 256]) := Lib.hid (HO.out.trans (by congr 2 <;> omega))
          clear HO
          go_wp2_with ((with_reducible refine gate_builtin (b := .append) (xs := #[.tmp 28, .tmp 40]) rfl ?_); at_builtin; refine Kd.R_append_row (Value.int .u8) (0 : Int) (h1 := fun _ => rfl) (w0 := w) B0 rfl (.tmp 28) (.tmp 40) 42 5 (.int .u8 0) 1 rfl Tryd.underlying42 info5 rfl (by decide) (.slice A4 L.length c4) L [(y : Int) / 16777216, (y : Int) / 65536 % 256, (y : Int) / 256 % 256, (y : Int) % 256] (some ⟨wr.heap.size, 0, none⟩) 4 4 (fun _ => True) rfl rfl (fun _ _ => trivial) (Kd.R_alloc hR.out _) ?aR ?aB ?aS ?aL ?_; (case aR => exact C_lit wr _ .u8 [(y : Int) / 16777216, (y : Int) / 65536 % 256, (y : Int) / 256 % 256, (y : Int) % 256] (by simp)); (case aB => exact kB.out.alloc hsz _); (case aS => rw [World.size_alloc]; omega); (case aL => have := HLEN.out; simp; omega); intro v41 w9 ho9 hb9 hg9 hat9; clear hg9 hat9)
          refine ⟨⟨j + 1, by simp, ⟨by omega⟩, ⟨by rw [HO2.out]; exact ho9⟩, ⟨hb9⟩⟩, by simp [intOf]; omega⟩
        · have h8 : j = 8 := by have := hj.out; omega
          subst h8
          clear hlt hj
          have ho8 : outB (H.take 8) = ofB (bytesOf s) := by rw [List.take_of_length_le (by rw [HHL.out]; exact Nat.le_refl _), ofB, ← HT.out, ← HN.out, ← HH.out]
          rw [ho8] at hR ⊢
          obtain ⟨L, hL⟩ : ∃ L, L = ofB (bytesOf s) := ⟨_, rfl⟩
          have HL := Lib.hid hL
          rw [← hL] at hR ⊢
          clear hL ho8
          have hcv := own_string (P := Tryd.prog) Tryd.underlying42 Tryd.underlying5 Tryd.underlying9 (Kd.own_of_R hR.out)
          go_wp2
          go_ret
          exact ⟨by rw [HL.out]; rfl, by rw [← HB0.out]; exact kB.out⟩
end Go.Proofs.YtklakmooaffjpaaDoor.DgsO
