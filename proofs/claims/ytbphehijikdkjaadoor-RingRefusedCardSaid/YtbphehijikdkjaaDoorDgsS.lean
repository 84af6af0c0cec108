/-
  digest.schedule, walked by hand.
-/
import Derived.Test.YtbphehijikdkjaaDoorDgsH
import Derived.StillTailTactics
import Derived.Laws.Rows
import Derived.Laws.Tables
import Derived.Laws.CopyOwn
namespace Go.Proofs.YtbphehijikdkjaaDoor.DgsS
open Go.RowKit Go.Proofs.YtbphehijikdkjaaDoorW.PrintWords Go.Proofs.YtbphehijikdkjaaDoorW.PrintMore Go.Proofs.YtbphehijikdkjaaDoor.Cm Go.Proofs.YtbphehijikdkjaaDoor.Str Go.Proofs.YtbphehijikdkjaaDoor.DgsP Go.Proofs.YtbphehijikdkjaaDoor.DgsH
set_option linter.unusedVariables false
/-- Numbers as values. -/
def vals (k : IntKind) (l : List Nat) : Array Value := (l.map fun (x : Nat) => Value.int k (x : Int)).toArray
theorem vals_get (k : IntKind) (l : List Nat) (j : Nat) (h : j < l.length) : (vals k l)[j]? = some (.int k (l.getD j 0 : Nat)) := by
  simp [vals, List.getD_eq_getElem?_getD, List.getElem?_eq_getElem h]
theorem vals_size (k : IntKind) (l : List Nat) : (vals k l).size = l.length := by simp [vals]
/-- A block of numbers. -/
def Blk (k : IntKind) (w : World) (B : Nat) (t : TypeId) (l : List Nat) : Prop := w.heap[B]? = some (.cells (vals k l) t (0, 0))
theorem Blk.cell {k : IntKind} {w : World} {B : Nat} {t : TypeId} {l : List Nat} (h : Blk k w B t l) (j : Nat) (hj : j < l.length) : w.cell? { block := B, off := j } = some (.int k (l.getD j 0 : Nat)) := (blk_cell h j).trans (vals_get k l j hj)
theorem Blk.free {k : IntKind} {w : World} {B : Nat} {t : TypeId} {l : List Nat} (h : Blk k w B t l) (j : Nat) : w.frozen? { block := B, off := j } = false := blk_frozen h j
theorem Blk.put {k : IntKind} {w : World} {B : Nat} {t : TypeId} {l : List Nat} (h : Blk k w B t l) (j : Nat) (x : Nat) (hj : j < l.length) : Blk k (w.setCell { block := B, off := j } (.int k (x : Nat))) B t (l.set j x) := by
  unfold Blk at *
  obtain ⟨hlt, hk⟩ := Array.getElem?_eq_some_iff.1 h
  show (w.heap.modify B _)[B]? = _
  rw [Array.getElem?_eq_getElem (by rw [Array.size_modify]; exact hlt), Array.getElem_modify_self, hk]
  simp [vals]
theorem Blk.put' {k : IntKind} {w : World} {B : Nat} {t : TypeId} {l : List Nat} (h : Blk k w B t l) (j : Nat) (x : Nat) (hj : j < l.length) (v : Int) (hv : v = (x : Int)) : Blk k (w.setCell { block := B, off := j } (.int k v)) B t (l.set j x) := by rw [hv]; exact h.put j x hj
theorem Blk.far {k : IntKind} {w : World} {B : Nat} {t : TypeId} {l : List Nat} (h : Blk k w B t l) (p : Addr) (u : Value) (hp : B ≠ p.block) : Blk k (w.setCell p u) B t l := (Below.heap_setCell w p u B hp).trans h
theorem Blk.below {k : IntKind} {w w' : World} {B : Nat} {t : TypeId} {l : List Nat} (h : Blk k w B t l) (hb : Below w.heap.size w w') : Blk k w' B t l := blk_below h hb
theorem Blk.alloc {k : IntKind} {w : World} {B : Nat} {t : TypeId} {l : List Nat} (h : Blk k w B t l) (o : Obj) : Blk k (w.alloc o) B t l := blk_alloc h o
theorem Blk.drew {k : IntKind} {w : World} {B : Nat} {t : TypeId} {l : List Nat} (h : Blk k w B t l) : Blk k w.drew B t l := h
theorem vals_one (k : IntKind) (l : List Nat) : (vals k l).all (·.oneCell') = true := by
  rw [Array.all_eq_true_iff_forall_mem]
  intro v hv
  simp only [vals, List.mem_toArray, List.mem_map] at hv
  obtain ⟨x, _, rfl⟩ := hv
  rfl
section
variable {P : Program} {ops : Array Oper} {rest : List Oper} {o : Oper} {a : Act} {Q : Exit → Act → World → Prop}
/-- A whole array is loaded. -/
theorem wpList_load_blk {w : World} (hgd : o.guard = none) (ty : TypeId) (x : Operand) (ho : o.op = .load ty x) (k : IntKind) (B : Nat) (l : List Nat) (t : TypeId) (d : TypeDesc) (hx : a.eval x = .pointer (some ⟨B, 0, none⟩)) (hB : Blk k w B t l)
    (hu : P.underlying ty = some d) (hd : (match d with | .struct _ | .array _ _ => true | _ => false) = true) (hi : (P.info? ty).map (·.size) = some l.length)
    (h : wpList P ops Q rest (a.put o.dst (.agg (vals k l))) w) : wpList P ops Q (o :: rest) a w :=
  wpList_plain hgd fun K hK => by
    unfold Oper.wp execOp
    simp only [ho, hx, Instr.loadAt, Instr.sureAddr, Sem.run_bind, Sem.run_pure, Result.andThen_ok, run_loadVar_row (P := P) w B t ty (vals k l) (0, 0) d hB hu hd (by rw [vals_size]; exact hi)]
    exact hK _ _ h
/-- A whole array is stored. -/
theorem wpList_store_blk {w : World} (hgd : o.guard = none) (ty : TypeId) (x y : Operand) (ho : o.op = .store ty x y) (k : IntKind) (B : Nat) (old l : List Nat) (t : TypeId) (hx : a.eval x = .pointer (some ⟨B, 0, none⟩)) (hy : a.eval y = .agg (vals k l)) (hB : Blk k w B t old)
    (hi : (P.info? ty).map (·.size) = some l.length) (hl : old.length = l.length)
    (h : wpList P ops Q rest (a.put o.dst undef) (w.setRow B (vals k l))) : wpList P ops Q (o :: rest) a w :=
  wpList_plain hgd fun K hK => by
    unfold Oper.wp execOp
    simp only [ho, hx, hy, Instr.storeAt, Instr.sureAddr, Sem.run_bind, Sem.run_pure, Result.andThen_ok, run_storeVar_row (P := P) w B t ty (vals k old) (vals k l) hB (by rw [vals_size]; exact hi) (by rw [vals_size, vals_size]; exact hl) (vals_one k l)]
    exact hK _ _ h
end
theorem Blk.row {k : IntKind} {w : World} {B : Nat} {t : TypeId} {old l : List Nat} (h : Blk k w B t old) : Blk k (w.setRow B (vals k l)) B t l := setRow_heap w B _ _ t _ h
theorem Blk.row_far {k : IntKind} {w : World} {B : Nat} {t : TypeId} {l : List Nat} (h : Blk k w B t l) (g : Nat) (cs : Array Value) (hg : B ≠ g) : Blk k (w.setRow g cs) B t l := (setRow_other w g B cs hg).trans h
/-- The words of the first bytes. -/
def sch1 (bs : List Nat) : Nat → List Nat
  | 0 => List.replicate 64 0
  | i + 1 => (sch1 bs i).set (i / 4) (((sch1 bs i).getD (i / 4) 0 <<< 8) % M ||| bs.getD i 0)
theorem sch1_len (bs : List Nat) : ∀ i, (sch1 bs i).length = 64
  | 0 => by simp [sch1]
  | i + 1 => by simp [sch1, sch1_len bs i]
theorem sch1_lt (bs : List Nat) (hb : ∀ x ∈ bs, x < 256) : ∀ i, ∀ x ∈ sch1 bs i, x < M
  | 0 => fun x hx => by rw [List.eq_of_mem_replicate hx]; decide
  | i + 1 => fun x hx => by
    rcases List.mem_or_eq_of_mem_set hx with h | rfl
    · exact sch1_lt bs hb i x h
    · refine or_lt _ _ (Nat.mod_lt _ (by decide)) ?_
      rw [List.getD_eq_getElem?_getD]
      cases e : bs[i]? with
      | none => decide
      | some v => have := hb v (List.mem_of_getElem? e); show v < M; rw [M_eq]; omega
/-- A further word of a block's rounds. -/
def nxt (a b x y : Nat) : Nat := (a + b + (rr x 7 ^^^ rr x 18 ^^^ x >>> 3) + (rr y 17 ^^^ rr y 19 ^^^ y >>> 10)) % M
def sch2 (l : List Nat) : Nat → List Nat
  | 0 => l
  | n + 1 => (sch2 l n).set (n + 16) (nxt ((sch2 l n).getD n 0) ((sch2 l n).getD (n + 9) 0) ((sch2 l n).getD (n + 1) 0) ((sch2 l n).getD (n + 14) 0))
theorem sch2_len (l : List Nat) : ∀ n, (sch2 l n).length = l.length
  | 0 => rfl
  | n + 1 => by simp [sch2, sch2_len l n]
theorem nxt_cast (a b x y : Nat) (hx : x < M) (hy : y < M) : ((a : Int) + b + bits .xor .u32 (bits .xor .u32 (rr x 7 : Int) (rr x 18 : Int)) ((x : Int) / 8) + bits .xor .u32 (bits .xor .u32 (rr y 17 : Int) (rr y 19 : Int)) ((y : Int) / 1024)) % 4294967296 = (nxt a b x y : Int) := by
  have e1 := shr_cast x 3
  have e2 := shr_cast y 10
  rw [show (2 : Int) ^ 3 = 8 from rfl] at e1
  rw [show (2 : Int) ^ 10 = 1024 from rfl] at e2
  rw [e1, e2, bits_xor _ _ (rr_lt x 7 hx) (rr_lt x 18 hx), bits_xor _ _ (xor_lt _ _ (rr_lt x 7 hx) (rr_lt x 18 hx)) (shr_lt x 3 hx), bits_xor _ _ (rr_lt y 17 hy) (rr_lt y 19 hy), bits_xor _ _ (xor_lt _ _ (rr_lt y 17 hy) (rr_lt y 19 hy)) (shr_lt y 10 hy)]
  unfold nxt
  rw [M_eq]
  generalize rr x 7 ^^^ rr x 18 ^^^ x >>> 3 = p
  generalize rr y 17 ^^^ rr y 19 ^^^ y >>> 10 = q
  omega
theorem nxt_lt (a b x y : Nat) : nxt a b x y < M := Nat.mod_lt _ (by decide)
theorem sch2_lt (l : List Nat) (hl : ∀ x ∈ l, x < M) : ∀ n, ∀ x ∈ sch2 l n, x < M
  | 0 => hl
  | n + 1 => fun x hx => by
    rcases List.mem_or_eq_of_mem_set hx with h | rfl
    · exact sch2_lt l hl n x h
    · exact nxt_lt _ _ _ _
theorem getD_lt {l : List Nat} {m : Nat} (h : ∀ x ∈ l, x < m) (hm : 0 < m) (i : Nat) : l.getD i 0 < m := by
  rw [List.getD_eq_getElem?_getD]
  cases e : l[i]? with
  | none => exact hm
  | some v => exact h v (List.mem_of_getElem? e)
/-- The words of a block's rounds. -/
def sched (bs : List Nat) : List Nat := sch2 (sch1 bs 64) 48
theorem sched_len (bs : List Nat) : (sched bs).length = 64 := by rw [sched, sch2_len, sch1_len]
theorem size_words : (Tryd.prog.info? 56).map (·.size) = some 64 := by kernel_rfl
set_option maxRecDepth 100000 in
set_option maxHeartbeats 4000000 in
theorem schedule_c (bs : List Nat) (hl : bs.length = 64) (hb : ∀ x ∈ bs, x < 256) (w : World) : Calls Tryd.prog 33 #[.agg (vals .u8 bs)] w fun e w' => e = .returned (.agg (vals .u32 (sched bs))) ∧ Below w.heap.size w w' := by
  have HL := Lib.hid hl
  have HB := Lib.hid hb
  clear hl hb
  go_enter Tryd.func33, Tryd.ntmps33
  go_wp2
  obtain ⟨B, hB⟩ : ∃ B, B = w.heap.size := ⟨_, rfl⟩
  generalize hW : (World.alloc (World.alloc (World.alloc w _) _) _) = W
  have hb0 : Blk .u8 W B 24 bs := by rw [← hW, hB]; exact blk_alloc (blk_alloc (blk_new w _) _) _
  have hb1 : Blk .u32 W (B + 1) 56 (List.replicate 64 0) := by rw [← hW, hB, ← World.size_alloc w]; exact blk_alloc (blk_new _ _) _
  have hb2 : Blk .u32 W (B + 1 + 1) 56 (List.replicate 64 0) := by rw [← hW, hB, ← World.size_alloc w, ← World.size_alloc (World.alloc w _)]; exact blk_new _ _
  have hbel : Below B w W := by rw [← hW, hB]; exact below_alloc (below_alloc (below_alloc (Below.refl _ _) _) _) _
  rw [← hB]
  have HBs := Lib.hid hB
  clear hB hW
  go_loopw [4, 8] (fun v4 v8 w' => ∃ i, i ≤ 64 ∧ v8 = .int .i64 (i : Nat) ∧ Aside0 (Blk .u8 w' B 24 bs) ∧ Aside0 (Blk .u32 w' (B + 1) 56 (List.replicate 64 0)) ∧ Aside0 (Blk .u32 w' (B + 1 + 1) 56 (sch1 bs i)) ∧ Aside0 (Below B w w')) (fun _ v8 _ => (64 - intOf v8).toNat)
  case atStart => exact ⟨0, by omega, rfl, ⟨hb0⟩, ⟨hb1⟩, ⟨hb2⟩, ⟨hbel⟩⟩
  case round =>
    obtain ⟨i, hi, rfl, h0, h1, h2, hB⟩ := hrel
    by_cases hlt : i < 64
    · have p1 : decide ((i : Int) < 64) = true := decide_eq_true (by omega)
      obtain ⟨b, hbe⟩ : ∃ b, b = bs.getD i 0 := ⟨_, rfl⟩
      obtain ⟨x, hxe⟩ : ∃ x, x = (sch1 bs i).getD (i / 4) 0 := ⟨_, rfl⟩
      have c0 := h0.out.cell i (by rw [HL.out]; exact hlt)
      have c2 := h2.out.cell (i / 4) (by rw [sch1_len]; omega)
      have f2 := h2.out.free (i / 4)
      rw [← hbe] at c0
      rw [← hxe] at c2
      have hbl : b < 256 := by rw [hbe]; exact getD_lt HB.out (by decide) i
      have Hb := Lib.hid hbe
      have Hx := Lib.hid hxe
      clear hbe hxe
      obtain ⟨m, hm⟩ : ∃ m, m = i / 4 := ⟨_, rfl⟩
      have q1 : (i : Int) / 4 = (m : Int) := by omega
      have q2 : m < 64 := by omega
      have q3 : Int.tdiv (i : Int) 4 = (m : Int) := by rw [Int.tdiv_eq_ediv_of_nonneg (by omega)]; exact q1
      rw [← hm] at c2 f2
      have Hm := Lib.hid hm
      clear hm
      have ev : bits .or .u32 ((x : Int) * 256 % 4294967296) (b : Int) = (((x <<< 8) % M ||| b : Nat) : Int) := by
        have e := shl_cast x 8
        rw [show (2 : Int) ^ 8 = 256 from rfl] at e
        rw [e, bits_or _ _ (Nat.mod_lt _ (by decide)) (by rw [M_eq]; omega)]
      have Ev := Lib.hid ev
      clear ev
      go_wp2
      go_region
      rw [Ev.out]
      have g0 := h0.out.far { block := B + 1 + 1, off := m } (.int .u32 (((x <<< 8) % M ||| b : Nat) : Int)) (by show B ≠ B + 1 + 1; omega)
      have g1 := h1.out.far { block := B + 1 + 1, off := m } (.int .u32 (((x <<< 8) % M ||| b : Nat) : Int)) (by simp)
      have g2 := h2.out.put m ((x <<< 8) % M ||| b) (by rw [sch1_len]; exact q2)
      have gB := hB.out.setCell (p := { block := B + 1 + 1, off := m }) (by show B ≤ B + 1 + 1; omega) (.int .u32 (((x <<< 8) % M ||| b : Nat) : Int))
      have es : (sch1 bs i).set m ((x <<< 8) % M ||| b) = sch1 bs (i + 1) := by rw [sch1, ← Hm.out, ← Hb.out]; rw [Hm.out, ← Hx.out]
      rw [es] at g2
      clear h0 h1 h2 hB c0 c2 f2 es
      go_wp2
      exact ⟨⟨i + 1, hlt, by simp, ⟨g0⟩, ⟨g1⟩, ⟨g2⟩, ⟨gB.drew⟩⟩, by simp [intOf]; omega⟩
    · have h64 : i = 64 := by omega
      subst h64
      clear hi hlt
      go_wp2
      go_loopw [5] (fun v5 w' => ∃ n, n ≤ 48 ∧ v5 = .int .i64 ((n + 16 : Nat) : Int) ∧ Aside0 (Blk .u32 w' (B + 1) 56 (List.replicate 64 0)) ∧ Aside0 (Blk .u32 w' (B + 1 + 1) 56 (sch2 (sch1 bs 64) n)) ∧ Aside0 (Below B w w')) (fun v5 _ => (64 - intOf v5).toNat)
      case atStart => exact ⟨0, by omega, rfl, h1, h2, hB⟩
      case round =>
        obtain ⟨n, hn, rfl, h1, h2, hB⟩ := hrel
        by_cases hlt : n < 48
        · obtain ⟨i, hi⟩ : ∃ i, i = n + 16 := ⟨_, rfl⟩
          rw [← hi]
          have p1 : decide ((i : Int) < 64) = true := decide_eq_true (by omega)
          obtain ⟨l, hle⟩ : ∃ l, l = sch2 (sch1 bs 64) n := ⟨_, rfl⟩
          have hll : l.length = 64 := by rw [hle, sch2_len, sch1_len]
          have hlM : ∀ x ∈ l, x < M := by rw [hle]; exact sch2_lt _ (sch1_lt bs HB.out 64) n
          obtain ⟨r, hr⟩ : ∃ r, r = sch2 (sch1 bs 64) (n + 1) := ⟨_, rfl⟩
          have es : l.set i (nxt (l.getD n 0) (l.getD (n + 9) 0) (l.getD (n + 1) 0) (l.getD (n + 14) 0)) = r := by rw [hr, sch2, ← hle, hi]
          have Hr := Lib.hid hr
          clear hr
          rw [← hle] at h2
          obtain ⟨m9, h9⟩ : ∃ m, m = n + 9 := ⟨_, rfl⟩
          obtain ⟨m1, h1'⟩ : ∃ m, m = n + 1 := ⟨_, rfl⟩
          obtain ⟨m14, h14⟩ : ∃ m, m = n + 14 := ⟨_, rfl⟩
          have ca := h2.out.cell n (by omega)
          have cb := h2.out.cell m9 (by omega)
          have cx := h2.out.cell m1 (by omega)
          have cy := h2.out.cell m14 (by omega)
          have fi := h2.out.free i
          have ci := h2.out.cell i (by omega)
          have hx := getD_lt hlM (by decide) m1
          have hy := getD_lt hlM (by decide) m14
          rw [← h9, ← h1', ← h14] at es
          obtain ⟨a, ha⟩ : ∃ a, a = l.getD n 0 := ⟨_, rfl⟩
          obtain ⟨b, hb⟩ : ∃ a, a = l.getD m9 0 := ⟨_, rfl⟩
          obtain ⟨x, hxe⟩ : ∃ a, a = l.getD m1 0 := ⟨_, rfl⟩
          obtain ⟨y, hye⟩ : ∃ a, a = l.getD m14 0 := ⟨_, rfl⟩
          obtain ⟨z, hze⟩ : ∃ a, a = l.getD i 0 := ⟨_, rfl⟩
          rw [← ha] at ca es
          rw [← hb] at cb es
          rw [← hxe] at cx es hx
          rw [← hye] at cy es hy
          rw [← hze] at ci
          have r16 : (i : Int) - 16 = (n : Int) := by omega
          have r7 : (i : Int) - 7 = (m9 : Int) := by omega
          have r15 : (i : Int) - 15 = (m1 : Int) := by omega
          have r2 : (i : Int) - 2 = (m14 : Int) := by omega
          have b1 : m9 < 64 := by omega
          have b1' : (m9 : Int) < 64 := by omega
          have b2 : m1 < 64 := by omega
          have b2' : (m1 : Int) < 64 := by omega
          have b3 : m14 < 64 := by omega
          have b3' : (m14 : Int) < 64 := by omega
          have b4 : i < 64 := by omega
          have b4' : (i : Int) < 64 := by omega
          have b5 : n < 64 := by omega
          have b5' : (n : Int) < 64 := by omega
          have s1 : IntKind.i64.wrap (m9 : Int) = (m9 : Int) := by rw [IntKind.wrap_i64]; omega
          have s2 : IntKind.i64.wrap (m1 : Int) = (m1 : Int) := by rw [IntKind.wrap_i64]; omega
          have s3 : IntKind.i64.wrap (m14 : Int) = (m14 : Int) := by rw [IntKind.wrap_i64]; omega
          have s4 : IntKind.i64.wrap (n : Int) = (n : Int) := by rw [IntKind.wrap_i64]; omega
          have Es := Lib.hid es
          have Hi := Lib.hid hi
          have Hll := Lib.hid hll
          have Hx := Lib.hid hx
          have Hy := Lib.hid hy
          have T7 := Lib.hid (show ∀ W, Calls Tryd.prog 34 #[.int .u32 (x : Int), .int .i64 7] W fun e w' => e = .returned (.int .u32 (rr x 7 : Int)) ∧ w' = W from fun W => turned_c x 7 W hx (by decide))
          have T18 := Lib.hid (show ∀ W, Calls Tryd.prog 34 #[.int .u32 (x : Int), .int .i64 18] W fun e w' => e = .returned (.int .u32 (rr x 18 : Int)) ∧ w' = W from fun W => turned_c x 18 W hx (by decide))
          have T17 := Lib.hid (show ∀ W, Calls Tryd.prog 34 #[.int .u32 (y : Int), .int .i64 17] W fun e w' => e = .returned (.int .u32 (rr y 17 : Int)) ∧ w' = W from fun W => turned_c y 17 W hy (by decide))
          have T19 := Lib.hid (show ∀ W, Calls Tryd.prog 34 #[.int .u32 (y : Int), .int .i64 19] W fun e w' => e = .returned (.int .u32 (rr y 19 : Int)) ∧ w' = W from fun W => turned_c y 19 W hy (by decide))
          clear es hi hll hlM h9 h1' h14 ha hb hxe hye hze hx hy hle
          go_wp2
          refine wp_region_still_lit (by kernel_rfl) (by kernel_rfl) ?_
          repeat still_step
          refine wpStill_nil ?_
          change Exit.then _ _ Exit.normal _ wr.drew
          replace ca : wr.drew.cell? _ = _ := ca
          replace cb : wr.drew.cell? _ = _ := cb
          replace ci : wr.drew.cell? _ = _ := ci
          replace fi : wr.drew.frozen? _ = _ := fi
          have g1 : Blk .u32 wr.drew (B + 1) 56 (List.replicate 64 0) := h1.out
          have g2 : Blk .u32 wr.drew (B + 1 + 1) 56 l := h2.out
          have gB : Below B w wr.drew := hB.out.drew
          clear cx cy h1 h2 hB
          generalize wr.drew = w2 at ca cb ci fi g1 g2 gB ⊢
          have G1 := Lib.hid g1
          have G2 := Lib.hid g2
          have GB := Lib.hid gB
          clear g1 g2 gB
          go_wp2
          refine wp_region_still_tail 29 (by kernel_rfl) (by kernel_rfl) ?_
          simp only [List.take_succ_cons, List.take_zero, List.drop_succ_cons, List.drop_zero]
          repeat (first | still_step | (refine wpStill_step (fun K hK => ?_); go_simp; (first | with_reducible refine ⟨_, T7.out _, hK _ ?_⟩ | with_reducible refine ⟨_, T18.out _, hK _ ?_⟩ | with_reducible refine ⟨_, T17.out _, hK _ ?_⟩ | with_reducible refine ⟨_, T19.out _, hK _ ?_⟩); clear hK K))
          refine wpStill_nil ?_
          change wpList _ _ _ _ _ w2.drew
          replace ci : w2.drew.cell? _ = _ := ci
          replace fi : w2.drew.frozen? _ = _ := fi
          clear ca cb T7 T18 T17 T19
          replace G1 : Hid (Blk .u32 w2.drew (B + 1) 56 (List.replicate 64 0)) := G1
          replace G2 : Hid (Blk .u32 w2.drew (B + 1 + 1) 56 l) := G2
          replace GB : Hid (Below B w w2.drew) := Lib.hid GB.out.drew
          generalize w2.drew = w3 at ci fi G1 G2 GB ⊢
          go_wp2
          refine ⟨?_, ?mea⟩
          repeat apply Exists.intro
          refine And.intro ?rel ?eqq
          case eqq => rfl
          case rel =>
            refine ⟨n + 1, by omega, by rw [Hi.out]; simp; omega, ⟨G1.out.far _ _ (by show B + 1 ≠ B + 1 + 1; omega)⟩, ⟨?_⟩, ⟨GB.out.setCell (by show B ≤ B + 1 + 1; omega) _⟩⟩
            rw [← Hr.out, ← Es.out]
            exact G2.out.put' i _ (by rw [Hll.out]; exact b4) _ (nxt_cast a b x y Hx.out Hy.out)
          case mea => simp [intOf]; omega
        · have h48 : n = 48 := by omega
          subst h48
          clear hn hlt
          have e48 : sch2 (sch1 bs 64) 48 = sched bs := rfl
          rw [e48] at h2
          clear e48
          obtain ⟨l, hle⟩ : ∃ l, l = sched bs := ⟨_, rfl⟩
          have hll : l.length = 64 := by rw [hle]; exact sched_len bs
          rw [← hle] at h2
          have Hll := Lib.hid hll
          have Hle := Lib.hid hle
          clear hll hle
          go_wp2_with (first | ((with_reducible refine gate_dst (N := 66) rfl ?_); refine wpList_load_blk rfl 56 (.tmp 3) rfl .u32 (B + 1 + 1) l 56 _ rfl h2.out Tryd.underlying56 rfl (by rw [Hll.out]; exact size_words) ?_) | ((with_reducible refine gate_store (p := 2) rfl ?_); refine wpList_store_blk rfl 56 (.tmp 2) (.tmp 66) rfl .u32 (B + 1) (List.replicate 64 0) l 56 rfl rfl h1.out (by rw [Hll.out]; exact size_words) (by rw [Hll.out]; rfl) ?_))
          have g1 := h1.out.row (l := l)
          have hload := run_loadVar_row (P := Tryd.prog) _ (B + 1) 56 56 (vals .u32 l) (0, 0) _ g1 Tryd.underlying56 rfl (by rw [vals_size, Hll.out]; exact size_words)
          have gB := below_setRow hB.out (show B ≤ B + 1 by omega) (vals .u32 l)
          refine bodyPost_ret (v := .agg (vals .u32 l)) ?_ rfl ⟨by rw [Hle.out], by rw [← HBs.out]; exact gB⟩
          simp [results, Tryd.results33, Act.put, asAddr, hload]
end Go.Proofs.YtbphehijikdkjaaDoor.DgsS
