import Derived.Test.YtklakmooaffjpaaDoorWWords
import Derived.Test.YtklakmooaffjpaaDoorWMore
import Derived.Laws.BitsLemmas
import Derived.Test.YtklakmooaffjpaaDoorProg
import Derived.Test.YtklakmooaffjpaaDoorCalm
import Derived.WalkKit
import Derived.Handy
import Derived.WalkLawsBesides
import Derived.WalkSpells
import Derived.Lib.Hide
import Derived.Laws.Externs
import Derived.StillTailTactics
import Derived.Laws.Rows
import Derived.Laws.Tables
import Derived.Laws.CopyOwn
section
/-
  Texts and lists of numbers.
-/
namespace Go.Proofs.YtklakmooaffjpaaDoor.Str
open Go.RowKit Go.Proofs.YtklakmooaffjpaaDoorW.PrintWords
set_option linter.unusedVariables false
theorem wr {x : Int} (h0 : 0 ≤ x) (h1 : x < 4611686018427387904) : wrap64 x = x := by unfold wrap64; omega
theorem bt_rd (s : ByteArray) (i : Int) : bt s i = rd (bytesOf s) i := by
  unfold bt rd bytesOf
  split
  · rename_i h
    simp [List.getD, h]
    rfl
  · rename_i h
    simp [List.getD, h]
theorem len_bytesOf (s : ByteArray) : (bytesOf s).length = s.size := by simp [bytesOf]
theorem drop_bytes (s : ByteArray) (j : Nat) (h : j < s.size) : (bytesOf s).drop j = bt s j :: (bytesOf s).drop (j + 1) := by
  rw [List.drop_eq_getElem_cons (by rw [len_bytesOf]; exact h), bt_rd]
  congr 1
  simp [rd, List.getD, len_bytesOf, h]
theorem drop_end (s : ByteArray) (j : Nat) (h : s.size ≤ j) : (bytesOf s).drop j = [] := List.drop_eq_nil_of_le (by rw [len_bytesOf]; exact h)

abbrev E0 : ByteArray := ⟨#[]⟩
def R (l : List Int) : Prop := ∀ x ∈ l, 0 ≤ x ∧ x < 256
theorem R_bytesOf (s : ByteArray) : R (bytesOf s) := by
  intro x hx
  simp only [bytesOf, List.mem_map] at hx
  obtain ⟨b, _, rfl⟩ := hx
  have := b.toNat_lt
  omega
theorem str_bytes (s : ByteArray) : strOfNums (bytesOf s) = s := by
  have h : (strOfNums (bytesOf s)).data.toList = s.data.toList := by
    rw [strOfNums_data, bytesOf, List.map_map]
    conv => rhs; rw [← List.map_id s.data.toList]
    congr 1
    funext b
    simp
  have h2 : (strOfNums (bytesOf s)).data = s.data := by rw [← Array.toList_inj]; exact h
  cases s; cases hh : strOfNums (bytesOf _); rw [hh] at h2; simp at h2; rw [h2]
theorem bytes_str (l : List Int) (h : R l) : bytesOf (strOfNums l) = l := by
  rw [bytesOf, strOfNums_data, List.map_map]
  conv => rhs; rw [← List.map_id l]
  apply List.map_congr_left
  intro x hx
  have := h x hx
  show ((UInt8.ofNat x.toNat).toNat : Int) = x
  rw [UInt8.toNat_ofNat']
  omega
theorem str_inj {a b : List Int} (ha : R a) (hb : R b) (h : strOfNums a = strOfNums b) : a = b := by
  rw [← bytes_str a ha, ← bytes_str b hb, h]
theorem bytes_inj {s t : ByteArray} (h : bytesOf s = bytesOf t) : s = t := by rw [← str_bytes s, ← str_bytes t, h]
theorem str_app (a b : List Int) : strOfNums (a ++ b) = strOfNums a ++ strOfNums b := by
  have h : (strOfNums (a ++ b)).data = (strOfNums a ++ strOfNums b).data := by
    rw [← Array.toList_inj, ByteArray.data_append, Array.toList_append]
    simp only [strOfNums_data, List.map_append]
  cases h1 : strOfNums (a ++ b); cases h2 : strOfNums a ++ strOfNums b; rw [h1, h2] at h; simp at h; rw [h]
theorem bytes_app (s t : ByteArray) : bytesOf (s ++ t) = bytesOf s ++ bytesOf t := by
  simp [bytesOf, ByteArray.data_append]
theorem bytes_extract (s : ByteArray) (a b : Nat) : bytesOf (s.extract a b) = ((bytesOf s).take b).drop a := by
  rw [List.drop_take]; simp [bytesOf, ByteArray.data_extract, List.map_drop, List.map_take]
theorem R_nil : R [] := fun x h => by cases h
theorem R_app {a b : List Int} (ha : R a) (hb : R b) : R (a ++ b) := fun x h => (List.mem_append.1 h).elim (ha x) (hb x)
theorem R_take {a : List Int} (ha : R a) (n : Nat) : R (a.take n) := fun x h => ha x (List.mem_of_mem_take h)
theorem R_drop {a : List Int} (ha : R a) (n : Nat) : R (a.drop n) := fun x h => ha x (List.mem_of_mem_drop h)
theorem str_size {l : List Int} : (strOfNums l).size = l.length := strOfNums_size l
theorem bt_str {l : List Int} (h : R l) (i : Int) : bt (strOfNums l) i = rd l i := by rw [bt_rd, bytes_str l h]
theorem str_extract {l : List Int} (h : R l) (n : Nat) : (strOfNums l).extract 0 n = strOfNums (l.take n) := by
  apply bytes_inj
  rw [bytes_extract, bytes_str l h, bytes_str _ (R_take h n)]; rfl

theorem toList_eq (s : ByteArray) : s.toList = s.data.toList := ByteArray.toList_eq s
theorem toList_nil (s : ByteArray) : s.toList = ([] : List UInt8) ↔ bytesOf s = [] := by
  rw [toList_eq]; simp [bytesOf]
theorem toList_inj (s t : ByteArray) : s.toList = t.toList ↔ s = t := by
  constructor
  · intro h
    rw [toList_eq, toList_eq] at h
    exact bytes_inj (by unfold bytesOf; rw [h])
  · rintro rfl; rfl
theorem shl4 (x : Int) : shl .u8 x 4 = x * 16 % 256 := by
  unfold shl
  rw [IntKind.wrap_u8, show (2 : Int) ^ min (4 : Int).toNat IntKind.u8.bits = 16 by decide]
end Go.Proofs.YtklakmooaffjpaaDoor.Str
end

section
/-
  SHA-256 in plain numbers, and how the language's operations on words of 32 bits are plain ones.
-/
namespace Go.Proofs.YtklakmooaffjpaaDoor.DgsP
open Go.RowKit Go.Proofs.YtklakmooaffjpaaDoorW.PrintWords Go.Proofs.YtklakmooaffjpaaDoorW.PrintMore
set_option linter.unusedVariables false
/-- How many words there are. -/
def M : Nat := 4294967296
theorem M_eq : M = 4294967296 := rfl
theorem bits_and (a b : Nat) (ha : a < M) (hb : b < M) : bits .and .u32 (a : Int) (b : Int) = ((a &&& b : Nat) : Int) := by
  rw [M_eq] at ha hb
  have h1 : bits .and .u32 (a : Int) (b : Int) = IntKind.u32.wrap ((BitVec.ofNat 32 a &&& BitVec.ofNat 32 b : BitVec 32).toNat : Int) := by
    simp only [bits, BitVec.ofInt_natCast]; rfl
  have hx : a &&& b < 2 ^ 32 := Nat.and_lt_two_pow _ (by omega)
  rw [h1, BitVec.toNat_and, BitVec.toNat_ofNat, BitVec.toNat_ofNat, Nat.mod_eq_of_lt (show a < 2 ^ 32 by omega), Nat.mod_eq_of_lt (show b < 2 ^ 32 by omega), IntKind.wrap_u32]
  omega
theorem bits_or (a b : Nat) (ha : a < M) (hb : b < M) : bits .or .u32 (a : Int) (b : Int) = ((a ||| b : Nat) : Int) := by
  rw [M_eq] at ha hb
  have h1 : bits .or .u32 (a : Int) (b : Int) = IntKind.u32.wrap ((BitVec.ofNat 32 a ||| BitVec.ofNat 32 b : BitVec 32).toNat : Int) := by
    simp only [bits, BitVec.ofInt_natCast]; rfl
  have hx : a ||| b < 2 ^ 32 := Nat.or_lt_two_pow (by omega) (by omega)
  rw [h1, BitVec.toNat_or, BitVec.toNat_ofNat, BitVec.toNat_ofNat, Nat.mod_eq_of_lt (show a < 2 ^ 32 by omega), Nat.mod_eq_of_lt (show b < 2 ^ 32 by omega), IntKind.wrap_u32]
  omega
theorem bits_xor (a b : Nat) (ha : a < M) (hb : b < M) : bits .xor .u32 (a : Int) (b : Int) = ((a ^^^ b : Nat) : Int) := by
  rw [M_eq] at ha hb
  have h1 : bits .xor .u32 (a : Int) (b : Int) = IntKind.u32.wrap ((BitVec.ofNat 32 a ^^^ BitVec.ofNat 32 b : BitVec 32).toNat : Int) := by
    simp only [bits, BitVec.ofInt_natCast]; rfl
  have hx : a ^^^ b < 2 ^ 32 := Nat.xor_lt_two_pow (by omega) (by omega)
  rw [h1, BitVec.toNat_xor, BitVec.toNat_ofNat, BitVec.toNat_ofNat, Nat.mod_eq_of_lt (show a < 2 ^ 32 by omega), Nat.mod_eq_of_lt (show b < 2 ^ 32 by omega), IntKind.wrap_u32]
  omega
theorem and_lt (a b : Nat) (hb : b < M) : a &&& b < M := Nat.and_lt_two_pow (n := 32) _ hb
theorem or_lt (a b : Nat) (ha : a < M) (hb : b < M) : a ||| b < M := Nat.or_lt_two_pow (n := 32) ha hb
theorem xor_lt (a b : Nat) (ha : a < M) (hb : b < M) : a ^^^ b < M := Nat.xor_lt_two_pow (n := 32) ha hb
theorem shr_lt (a n : Nat) (ha : a < M) : a >>> n < M := by rw [Nat.shiftRight_eq_div_pow]; exact Nat.lt_of_le_of_lt (Nat.div_le_self _ _) ha
/-- x turned right by n. -/
def rr (x n : Nat) : Nat := (x <<< (32 - n)) % M ||| (x >>> n)
theorem rr_lt (x n : Nat) (hx : x < M) : rr x n < M := or_lt _ _ (Nat.mod_lt _ (by decide)) (shr_lt x n hx)
theorem shr_cast (x n : Nat) : (x : Int) / 2 ^ n = ((x >>> n : Nat) : Int) := by
  rw [Nat.shiftRight_eq_div_pow]; simp
theorem shl_cast (x n : Nat) : (x : Int) * 2 ^ n % 4294967296 = ((x <<< n % M : Nat) : Int) := by
  rw [Nat.shiftLeft_eq, M_eq]; simp
theorem rot_cast (x n : Nat) (hx : x < M) : bits .or .u32 ((x : Int) * 2 ^ (32 - n) % 4294967296) ((x : Int) / 2 ^ n) = (rr x n : Int) := by
  rw [shl_cast, shr_cast, bits_or _ _ (Nat.mod_lt _ (by decide)) (shr_lt x n hx)]; rfl
end Go.Proofs.YtklakmooaffjpaaDoor.DgsP
end

section
/-
  A word turned: math/bits.RotateLeft32 and digest.turned, walked by hand.
-/
namespace Go.Proofs.YtklakmooaffjpaaDoor.DgsH
open Go.RowKit Go.Proofs.YtklakmooaffjpaaDoorW.PrintWords Go.Proofs.YtklakmooaffjpaaDoorW.PrintMore Go.Proofs.YtklakmooaffjpaaDoor.Cm Go.Proofs.YtklakmooaffjpaaDoor.Str Go.Proofs.YtklakmooaffjpaaDoor.DgsP
set_option linter.unusedVariables false
theorem turn_by (n : Nat) (hn : 0 < n ∧ n < 32) : bits .and .u64 (IntKind.u64.wrap (-(n : Int))) 31 = ((32 - n : Nat) : Int) := by
  have h : ∀ k : Fin 32, 0 < k.val → bits .and .u64 (IntKind.u64.wrap (-(k.val : Int))) 31 = ((32 - k.val : Nat) : Int) := by decide +kernel
  exact h ⟨n, hn.2⟩ hn.1
set_option maxHeartbeats 1000000 in
theorem rol_c (x n : Nat) (w : World) (hx : x < M) (hn : 0 < n ∧ n < 32) : Calls Tryd.prog 64 #[.int .u32 (x : Int), .int .i64 (-(n : Int))] w fun e w' => e = .returned (.int .u32 (rr x n : Int)) ∧ w' = w := by
  have hs := turn_by n hn
  obtain ⟨s, hse⟩ : ∃ s, s = 32 - n := ⟨_, rfl⟩
  rw [← hse] at hs
  have h1 : 0 < s ∧ s < 32 := by omega
  have h2 : (32 : Int) - (s : Int) = (n : Int) := by omega
  have Hx := Lib.hid hx
  have Hs := Lib.hid hse
  clear hx hse
  go_enter Tryd.func64, Tryd.ntmps64
  go_wp2
  go_ret
  exact ⟨by rw [Hs.out, rot_cast x n Hx.out]; rfl, rfl⟩
theorem turned_c (x n : Nat) (w : World) (hx : x < M) (hn : 0 < n ∧ n < 32) : Calls Tryd.prog 52 #[.int .u32 (x : Int), .int .i64 (n : Int)] w fun e w' => e = .returned (.int .u32 (rr x n : Int)) ∧ w' = w := by
  have C := Lib.hid fun W => rol_c x n W hx hn
  clear hx
  go_enter Tryd.func52, Tryd.ntmps52
  go_wp2_with fail
  refine (C.out _).mono ?_
  rintro e w1 ⟨rfl, rfl⟩
  go_wp2
  go_ret
  exact ⟨rfl, rfl⟩
end Go.Proofs.YtklakmooaffjpaaDoor.DgsH
end

section
/-
  digest.schedule, walked by hand.
-/
namespace Go.Proofs.YtklakmooaffjpaaDoor.DgsS
open Go.RowKit Go.Proofs.YtklakmooaffjpaaDoorW.PrintWords Go.Proofs.YtklakmooaffjpaaDoorW.PrintMore Go.Proofs.YtklakmooaffjpaaDoor.Cm Go.Proofs.YtklakmooaffjpaaDoor.Str Go.Proofs.YtklakmooaffjpaaDoor.DgsP Go.Proofs.YtklakmooaffjpaaDoor.DgsH
set_option linter.unusedVariables false
/-- Numbers as values. -/
def vals (k : IntKind) (l : List Nat) : Array Value := (l.map fun (x : Nat) => Value.int k (x : Int)).toArray
theorem vals_get (k : IntKind) (l : List Nat) (j : Nat) (h : j < l.length) : (vals k l)[j]? = some (.int k (l.getD j 0 : Nat)) := by
  simp [vals, List.getD_eq_getElem?_getD, List.getElem?_eq_getElem h]
theorem vals_size (k : IntKind) (l : List Nat) : (vals k l).size = l.length := by simp [vals]
/-- A block of numbers. -/
def Blk (k : IntKind) (w : World) (B : Nat) (t : TypeId) (l : List Nat) : Prop := w.heap[B]? = some (.cells (vals k l) t (0, 0))
theorem Blk.cell {k : IntKind} {w : World} {B : Nat} {t : TypeId} {l : List Nat} (h : Blk k w B t l) (j : Nat) (hj : j < l.length) : w.cell? { block := B, off := j } = some (.int k (l.getD j 0 : Nat)) := (bC h j).trans (vals_get k l j hj)
theorem Blk.free {k : IntKind} {w : World} {B : Nat} {t : TypeId} {l : List Nat} (h : Blk k w B t l) (j : Nat) : w.frozen? { block := B, off := j } = false := bF h j
theorem Blk.put {k : IntKind} {w : World} {B : Nat} {t : TypeId} {l : List Nat} (h : Blk k w B t l) (j : Nat) (x : Nat) (hj : j < l.length) : Blk k (w.setCell { block := B, off := j } (.int k (x : Nat))) B t (l.set j x) := by
  unfold Blk at *
  obtain ⟨hlt, hk⟩ := Array.getElem?_eq_some_iff.1 h
  show (w.heap.modify B _)[B]? = _
  rw [Array.getElem?_eq_getElem (by rw [Array.size_modify]; exact hlt), Array.getElem_modify_self, hk]
  simp [vals]
theorem Blk.put' {k : IntKind} {w : World} {B : Nat} {t : TypeId} {l : List Nat} (h : Blk k w B t l) (j : Nat) (x : Nat) (hj : j < l.length) (v : Int) (hv : v = (x : Int)) : Blk k (w.setCell { block := B, off := j } (.int k v)) B t (l.set j x) := by rw [hv]; exact h.put j x hj
theorem Blk.far {k : IntKind} {w : World} {B : Nat} {t : TypeId} {l : List Nat} (h : Blk k w B t l) (p : Addr) (u : Value) (hp : B ≠ p.block) : Blk k (w.setCell p u) B t l := (Below.heap_setCell w p u B hp).trans h
theorem Blk.below {k : IntKind} {w w' : World} {B : Nat} {t : TypeId} {l : List Nat} (h : Blk k w B t l) (hb : Below w.heap.size w w') : Blk k w' B t l := bB h hb
theorem Blk.alloc {k : IntKind} {w : World} {B : Nat} {t : TypeId} {l : List Nat} (h : Blk k w B t l) (o : Obj) : Blk k (w.alloc o) B t l := bA h o
theorem Blk.drew {k : IntKind} {w : World} {B : Nat} {t : TypeId} {l : List Nat} (h : Blk k w B t l) : Blk k w.drew B t l := h
theorem vals_one (k : IntKind) (l : List Nat) : (vals k l).all (·.oneCell') = true := by
  rw [Array.all_eq_true_iff_forall_mem]
  intro v hv
  simp only [vals, List.mem_toArray, List.mem_map] at hv
  obtain ⟨x, _, rfl⟩ := hv
  rfl
section
variable {P : Program} {ops : Array Oper} {rest : List Oper} {o : Oper} {a : Act} {Q : Exit → Act → World → Prop}
/-- A whole array is loaded. -/
theorem wpList_load_blk {w : World} (hgd : o.guard = none) (ty : TypeId) (x : Operand) (ho : o.op = .load ty x) (k : IntKind) (B : Nat) (l : List Nat) (t : TypeId) (d : TypeDesc) (hx : a.eval x = .pointer (some ⟨B, 0, none⟩)) (hB : Blk k w B t l)
    (hu : P.underlying ty = some d) (hd : (match d with | .struct _ | .array _ _ => true | _ => false) = true) (hi : (P.info? ty).map (·.size) = some l.length)
    (h : wpList P ops Q rest (a.put o.dst (.agg (vals k l))) w) : wpList P ops Q (o :: rest) a w :=
  wpList_plain hgd fun K hK => by
    unfold Oper.wp execOp
    simp only [ho, hx, Instr.loadAt, Instr.sureAddr, Sem.run_bind, Sem.run_pure, Result.andThen_ok, run_loadVar_row (P := P) w B t ty (vals k l) (0, 0) d hB hu hd (by rw [vals_size]; exact hi)]
    exact hK _ _ h
/-- A whole array is stored. -/
theorem wpList_store_blk {w : World} (hgd : o.guard = none) (ty : TypeId) (x y : Operand) (ho : o.op = .store ty x y) (k : IntKind) (B : Nat) (old l : List Nat) (t : TypeId) (hx : a.eval x = .pointer (some ⟨B, 0, none⟩)) (hy : a.eval y = .agg (vals k l)) (hB : Blk k w B t old)
    (hi : (P.info? ty).map (·.size) = some l.length) (hl : old.length = l.length)
    (h : wpList P ops Q rest (a.put o.dst undef) (w.setRow B (vals k l))) : wpList P ops Q (o :: rest) a w :=
  wpList_plain hgd fun K hK => by
    unfold Oper.wp execOp
    simp only [ho, hx, hy, Instr.storeAt, Instr.sureAddr, Sem.run_bind, Sem.run_pure, Result.andThen_ok, run_storeVar_row (P := P) w B t ty (vals k old) (vals k l) hB (by rw [vals_size]; exact hi) (by rw [vals_size, vals_size]; exact hl) (vals_one k l)]
    exact hK _ _ h
end
theorem Blk.row {k : IntKind} {w : World} {B : Nat} {t : TypeId} {old l : List Nat} (h : Blk k w B t old) : Blk k (w.setRow B (vals k l)) B t l := setRow_heap w B _ _ t _ h
theorem Blk.row_far {k : IntKind} {w : World} {B : Nat} {t : TypeId} {l : List Nat} (h : Blk k w B t l) (g : Nat) (cs : Array Value) (hg : B ≠ g) : Blk k (w.setRow g cs) B t l := (setRow_other w g B cs hg).trans h
/-- The words of the first bytes. -/
def sch1 (bs : List Nat) : Nat → List Nat
  | 0 => List.replicate 64 0
  | i + 1 => (sch1 bs i).set (i / 4) (((sch1 bs i).getD (i / 4) 0 <<< 8) % M ||| bs.getD i 0)
theorem sch1_len (bs : List Nat) : ∀ i, (sch1 bs i).length = 64
  | 0 => by simp [sch1]
  | i + 1 => by simp [sch1, sch1_len bs i]
theorem sch1_lt (bs : List Nat) (hb : ∀ x ∈ bs, x < 256) : ∀ i, ∀ x ∈ sch1 bs i, x < M
  | 0 => fun x hx => by rw [List.eq_of_mem_replicate hx]; decide
  | i + 1 => fun x hx => by
    rcases List.mem_or_eq_of_mem_set hx with h | rfl
    · exact sch1_lt bs hb i x h
    · refine or_lt _ _ (Nat.mod_lt _ (by decide)) ?_
      rw [List.getD_eq_getElem?_getD]
      cases e : bs[i]? with
      | none => decide
      | some v => have := hb v (List.mem_of_getElem? e); show v < M; rw [M_eq]; omega
/-- A further word of a block's rounds. -/
def nxt (a b x y : Nat) : Nat := (a + b + (rr x 7 ^^^ rr x 18 ^^^ x >>> 3) + (rr y 17 ^^^ rr y 19 ^^^ y >>> 10)) % M
def sch2 (l : List Nat) : Nat → List Nat
  | 0 => l
  | n + 1 => (sch2 l n).set (n + 16) (nxt ((sch2 l n).getD n 0) ((sch2 l n).getD (n + 9) 0) ((sch2 l n).getD (n + 1) 0) ((sch2 l n).getD (n + 14) 0))
theorem sch2_len (l : List Nat) : ∀ n, (sch2 l n).length = l.length
  | 0 => rfl
  | n + 1 => by simp [sch2, sch2_len l n]
theorem nxt_cast (a b x y : Nat) (hx : x < M) (hy : y < M) : ((a : Int) + b + bits .xor .u32 (bits .xor .u32 (rr x 7 : Int) (rr x 18 : Int)) ((x : Int) / 8) + bits .xor .u32 (bits .xor .u32 (rr y 17 : Int) (rr y 19 : Int)) ((y : Int) / 1024)) % 4294967296 = (nxt a b x y : Int) := by
  have e1 := shr_cast x 3
  have e2 := shr_cast y 10
  rw [show (2 : Int) ^ 3 = 8 from rfl] at e1
  rw [show (2 : Int) ^ 10 = 1024 from rfl] at e2
  rw [e1, e2, bits_xor _ _ (rr_lt x 7 hx) (rr_lt x 18 hx), bits_xor _ _ (xor_lt _ _ (rr_lt x 7 hx) (rr_lt x 18 hx)) (shr_lt x 3 hx), bits_xor _ _ (rr_lt y 17 hy) (rr_lt y 19 hy), bits_xor _ _ (xor_lt _ _ (rr_lt y 17 hy) (rr_lt y 19 hy)) (shr_lt y 10 hy)]
  unfold nxt
  rw [M_eq]
  generalize rr x 7 ^^^ rr x 18 ^^^ x >>> 3 = p
  generalize rr y 17 ^^^ rr y 19 ^^^ y >>> 10 = q
  omega
theorem nxt_lt (a b x y : Nat) : nxt a b x y < M := Nat.mod_lt _ (by decide)
theorem sch2_lt (l : List Nat) (hl : ∀ x ∈ l, x < M) : ∀ n, ∀ x ∈ sch2 l n, x < M
  | 0 => hl
  | n + 1 => fun x hx => by
    rcases List.mem_or_eq_of_mem_set hx with h | rfl
    · exact sch2_lt l hl n x h
    · exact nxt_lt _ _ _ _
theorem getD_lt {l : List Nat} {m : Nat} (h : ∀ x ∈ l, x < m) (hm : 0 < m) (i : Nat) : l.getD i 0 < m := by
  rw [List.getD_eq_getElem?_getD]
  cases e : l[i]? with
  | none => exact hm
  | some v => exact h v (List.mem_of_getElem? e)
/-- The words of a block's rounds. -/
def sched (bs : List Nat) : List Nat := sch2 (sch1 bs 64) 48
theorem sched_len (bs : List Nat) : (sched bs).length = 64 := by rw [sched, sch2_len, sch1_len]
theorem size_words : (Tryd.prog.info? 81).map (·.size) = some 64 := by kernel_rfl
set_option maxRecDepth 100000 in
set_option maxHeartbeats 4000000 in
theorem schedule_c (bs : List Nat) (hl : bs.length = 64) (hb : ∀ x ∈ bs, x < 256) (w : World) : Calls Tryd.prog 51 #[.agg (vals .u8 bs)] w fun e w' => e = .returned (.agg (vals .u32 (sched bs))) ∧ Below w.heap.size w w' := by
  have HL := Lib.hid hl
  have HB := Lib.hid hb
  clear hl hb
  go_enter Tryd.func51, Tryd.ntmps51
  go_wp2
  obtain ⟨B, hB⟩ : ∃ B, B = w.heap.size := ⟨_, rfl⟩
  generalize hW : (World.alloc (World.alloc (World.alloc w _) _) _) = W
  have hb0 : Blk .u8 W B 62 bs := by rw [← hW, hB]; exact bA (bA (blk_new w _) _) _
  have hb1 : Blk .u32 W (B + 1) 81 (List.replicate 64 0) := by rw [← hW, hB, ← World.size_alloc w]; exact bA (blk_new _ _) _
  have hb2 : Blk .u32 W (B + 1 + 1) 81 (List.replicate 64 0) := by rw [← hW, hB, ← World.size_alloc w, ← World.size_alloc (World.alloc w _)]; exact blk_new _ _
  have hbel : Below B w W := by rw [← hW, hB]; exact wA (wA (wA (Below.refl _ _) _) _) _
  rw [← hB]
  have HBs := Lib.hid hB
  clear hB hW
  go_loopw [4, 8] (fun v4 v8 w' => ∃ i, i ≤ 64 ∧ v8 = .int .i64 (i : Nat) ∧ A0_ (Blk .u8 w' B 62 bs) ∧ A0_ (Blk .u32 w' (B + 1) 81 (List.replicate 64 0)) ∧ A0_ (Blk .u32 w' (B + 1 + 1) 81 (sch1 bs i)) ∧ A0_ (Below B w w')) (fun _ v8 _ => (64 - intOf v8).toNat)
  case atStart => exact ⟨0, by omega, rfl, ⟨hb0⟩, ⟨hb1⟩, ⟨hb2⟩, ⟨hbel⟩⟩
  case round =>
    obtain ⟨i, hi, rfl, h0, h1, h2, hB⟩ := hrel
    by_cases hlt : i < 64
    · have p1 : decide ((i : Int) < 64) = true := decide_eq_true (by omega)
      obtain ⟨b, hbe⟩ : ∃ b, b = bs.getD i 0 := ⟨_, rfl⟩
      obtain ⟨x, hxe⟩ : ∃ x, x = (sch1 bs i).getD (i / 4) 0 := ⟨_, rfl⟩
      have c0 := h0.out.cell i (by rw [HL.out]; exact hlt)
      have c2 := h2.out.cell (i / 4) (by rw [sch1_len]; omega)
      have f2 := h2.out.free (i / 4)
      rw [← hbe] at c0
      rw [← hxe] at c2
      have hbl : b < 256 := by rw [hbe]; exact getD_lt HB.out (by decide) i
      have Hb := Lib.hid hbe
      have Hx := Lib.hid hxe
      clear hbe hxe
      obtain ⟨m, hm⟩ : ∃ m, m = i / 4 := ⟨_, rfl⟩
      have q1 : (i : Int) / 4 = (m : Int) := by omega
      have q2 : m < 64 := by omega
      have q3 : Int.tdiv (i : Int) 4 = (m : Int) := by rw [Int.tdiv_eq_ediv_of_nonneg (by omega)]; exact q1
      rw [← hm] at c2 f2
      have Hm := Lib.hid hm
      clear hm
      have ev : bits .or .u32 ((x : Int) * 256 % 4294967296) (b : Int) = (((x <<< 8) % M ||| b : Nat) : Int) := by
        have e := shl_cast x 8
        rw [show (2 : Int) ^ 8 = 256 from rfl] at e
        rw [e, bits_or _ _ (Nat.mod_lt _ (by decide)) (by rw [M_eq]; omega)]
      have Ev := Lib.hid ev
      clear ev
      go_wp2
      go_region
      rw [Ev.out]
      have g0 := h0.out.far { block := B + 1 + 1, off := m } (.int .u32 (((x <<< 8) % M ||| b : Nat) : Int)) (by show B ≠ B + 1 + 1; omega)
      have g1 := h1.out.far { block := B + 1 + 1, off := m } (.int .u32 (((x <<< 8) % M ||| b : Nat) : Int)) (by simp)
      have g2 := h2.out.put m ((x <<< 8) % M ||| b) (by rw [sch1_len]; exact q2)
      have gB := hB.out.setCell (p := { block := B + 1 + 1, off := m }) (by show B ≤ B + 1 + 1; omega) (.int .u32 (((x <<< 8) % M ||| b : Nat) : Int))
      have es : (sch1 bs i).set m ((x <<< 8) % M ||| b) = sch1 bs (i + 1) := by rw [sch1, ← Hm.out, ← Hb.out]; rw [Hm.out, ← Hx.out]
      rw [es] at g2
      clear h0 h1 h2 hB c0 c2 f2 es
      go_wp2
      exact ⟨⟨i + 1, hlt, by simp, ⟨g0⟩, ⟨g1⟩, ⟨g2⟩, ⟨gB.drew⟩⟩, by simp [intOf]; omega⟩
    · have h64 : i = 64 := by omega
      subst h64
      clear hi hlt
      go_wp2
      go_loopw [5] (fun v5 w' => ∃ n, n ≤ 48 ∧ v5 = .int .i64 ((n + 16 : Nat) : Int) ∧ A0_ (Blk .u32 w' (B + 1) 81 (List.replicate 64 0)) ∧ A0_ (Blk .u32 w' (B + 1 + 1) 81 (sch2 (sch1 bs 64) n)) ∧ A0_ (Below B w w')) (fun v5 _ => (64 - intOf v5).toNat)
      case atStart => exact ⟨0, by omega, rfl, h1, h2, hB⟩
      case round =>
        obtain ⟨n, hn, rfl, h1, h2, hB⟩ := hrel
        by_cases hlt : n < 48
        · obtain ⟨i, hi⟩ : ∃ i, i = n + 16 := ⟨_, rfl⟩
          rw [← hi]
          have p1 : decide ((i : Int) < 64) = true := decide_eq_true (by omega)
          obtain ⟨l, hle⟩ : ∃ l, l = sch2 (sch1 bs 64) n := ⟨_, rfl⟩
          have hll : l.length = 64 := by rw [hle, sch2_len, sch1_len]
          have hlM : ∀ x ∈ l, x < M := by rw [hle]; exact sch2_lt _ (sch1_lt bs HB.out 64) n
          obtain ⟨r, hr⟩ : ∃ r, r = sch2 (sch1 bs 64) (n + 1) := ⟨_, rfl⟩
          have es : l.set i (nxt (l.getD n 0) (l.getD (n + 9) 0) (l.getD (n + 1) 0) (l.getD (n + 14) 0)) = r := by rw [hr, sch2, ← hle, hi]
          have Hr := Lib.hid hr
          clear hr
          rw [← hle] at h2
          obtain ⟨m9, h9⟩ : ∃ m, m = n + 9 := ⟨_, rfl⟩
          obtain ⟨m1, h1'⟩ : ∃ m, m = n + 1 := ⟨_, rfl⟩
          obtain ⟨m14, h14⟩ : ∃ m, m = n + 14 := ⟨_, rfl⟩
          have ca := h2.out.cell n (by omega)
          have cb := h2.out.cell m9 (by omega)
          have cx := h2.out.cell m1 (by omega)
          have cy := h2.out.cell m14 (by omega)
          have fi := h2.out.free i
          have ci := h2.out.cell i (by omega)
          have hx := getD_lt hlM (by decide) m1
          have hy := getD_lt hlM (by decide) m14
          rw [← h9, ← h1', ← h14] at es
          obtain ⟨a, ha⟩ : ∃ a, a = l.getD n 0 := ⟨_, rfl⟩
          obtain ⟨b, hb⟩ : ∃ a, a = l.getD m9 0 := ⟨_, rfl⟩
          obtain ⟨x, hxe⟩ : ∃ a, a = l.getD m1 0 := ⟨_, rfl⟩
          obtain ⟨y, hye⟩ : ∃ a, a = l.getD m14 0 := ⟨_, rfl⟩
          obtain ⟨z, hze⟩ : ∃ a, a = l.getD i 0 := ⟨_, rfl⟩
          rw [← ha] at ca es
          rw [← hb] at cb es
          rw [← hxe] at cx es hx
          rw [← hye] at cy es hy
          rw [← hze] at ci
          have r16 : (i : Int) - 16 = (n : Int) := by omega
          have r7 : (i : Int) - 7 = (m9 : Int) := by omega
          have r15 : (i : Int) - 15 = (m1 : Int) := by omega
          have r2 : (i : Int) - 2 = (m14 : Int) := by omega
          have b1 : m9 < 64 := by omega
          have b1' : (m9 : Int) < 64 := by omega
          have b2 : m1 < 64 := by omega
          have b2' : (m1 : Int) < 64 := by omega
          have b3 : m14 < 64 := by omega
          have b3' : (m14 : Int) < 64 := by omega
          have b4 : i < 64 := by omega
          have b4' : (i : Int) < 64 := by omega
          have b5 : n < 64 := by omega
          have b5' : (n : Int) < 64 := by omega
          have s1 : IntKind.i64.wrap (m9 : Int) = (m9 : Int) := by rw [IntKind.wrap_i64]; omega
          have s2 : IntKind.i64.wrap (m1 : Int) = (m1 : Int) := by rw [IntKind.wrap_i64]; omega
          have s3 : IntKind.i64.wrap (m14 : Int) = (m14 : Int) := by rw [IntKind.wrap_i64]; omega
          have s4 : IntKind.i64.wrap (n : Int) = (n : Int) := by rw [IntKind.wrap_i64]; omega
          have Es := Lib.hid es
          have Hi := Lib.hid hi
          have Hll := Lib.hid hll
          have Hx := Lib.hid hx
          have Hy := Lib.hid hy
          have T7 := Lib.hid (show ∀ W, Calls Tryd.prog 52 #[.int .u32 (x : Int), .int .i64 7] W fun e w' => e = .returned (.int .u32 (rr x 7 : Int)) ∧ w' = W from fun W => turned_c x 7 W hx (by decide))
          have T18 := Lib.hid (show ∀ W, Calls Tryd.prog 52 #[.int .u32 (x : Int), .int .i64 18] W fun e w' => e = .returned (.int .u32 (rr x 18 : Int)) ∧ w' = W from fun W => turned_c x 18 W hx (by decide))
          have T17 := Lib.hid (show ∀ W, Calls Tryd.prog 52 #[.int .u32 (y : Int), .int .i64 17] W fun e w' => e = .returned (.int .u32 (rr y 17 : Int)) ∧ w' = W from fun W => turned_c y 17 W hy (by decide))
          have T19 := Lib.hid (show ∀ W, Calls Tryd.prog 52 #[.int .u32 (y : Int), .int .i64 19] W fun e w' => e = .returned (.int .u32 (rr y 19 : Int)) ∧ w' = W from fun W => turned_c y 19 W hy (by decide))
          clear es hi hll hlM h9 h1' h14 ha hb hxe hye hze hx hy hle
          go_wp2
          refine wp_region_still_lit (by kernel_rfl) (by kernel_rfl) ?_
          repeat still_step
          refine wpStill_nil ?_
          change Exit.then _ _ Exit.normal _ wr.drew
          replace ca : wr.drew.cell? _ = _ := ca
          replace cb : wr.drew.cell? _ = _ := cb
          replace ci : wr.drew.cell? _ = _ := ci
          replace fi : wr.drew.frozen? _ = _ := fi
          have g1 : Blk .u32 wr.drew (B + 1) 81 (List.replicate 64 0) := h1.out
          have g2 : Blk .u32 wr.drew (B + 1 + 1) 81 l := h2.out
          have gB : Below B w wr.drew := hB.out.drew
          clear cx cy h1 h2 hB
          generalize wr.drew = w2 at ca cb ci fi g1 g2 gB ⊢
          have G1 := Lib.hid g1
          have G2 := Lib.hid g2
          have GB := Lib.hid gB
          clear g1 g2 gB
          go_wp2
          refine wp_region_still_tail 29 (by kernel_rfl) (by kernel_rfl) ?_
          simp only [List.take_succ_cons, List.take_zero, List.drop_succ_cons, List.drop_zero]
          repeat (first | still_step | (refine wpStill_step (fun K hK => ?_); go_simp; (first | with_reducible refine ⟨_, T7.out _, hK _ ?_⟩ | with_reducible refine ⟨_, T18.out _, hK _ ?_⟩ | with_reducible refine ⟨_, T17.out _, hK _ ?_⟩ | with_reducible refine ⟨_, T19.out _, hK _ ?_⟩); clear hK K))
          refine wpStill_nil ?_
          change wpList _ _ _ _ _ w2.drew
          replace ci : w2.drew.cell? _ = _ := ci
          replace fi : w2.drew.frozen? _ = _ := fi
          clear ca cb T7 T18 T17 T19
          replace G1 : Hid (Blk .u32 w2.drew (B + 1) 81 (List.replicate 64 0)) := G1
          replace G2 : Hid (Blk .u32 w2.drew (B + 1 + 1) 81 l) := G2
          replace GB : Hid (Below B w w2.drew) := Lib.hid GB.out.drew
          generalize w2.drew = w3 at ci fi G1 G2 GB ⊢
          go_wp2
          refine ⟨?_, ?mea⟩
          repeat apply Exists.intro
          refine And.intro ?rel ?eqq
          case eqq => rfl
          case rel =>
            refine ⟨n + 1, by omega, by rw [Hi.out]; simp; omega, ⟨G1.out.far _ _ (by show B + 1 ≠ B + 1 + 1; omega)⟩, ⟨?_⟩, ⟨GB.out.setCell (by show B ≤ B + 1 + 1; omega) _⟩⟩
            rw [← Hr.out, ← Es.out]
            exact G2.out.put' i _ (by rw [Hll.out]; exact b4) _ (nxt_cast a b x y Hx.out Hy.out)
          case mea => simp [intOf]; omega
        · have h48 : n = 48 := by omega
          subst h48
          clear hn hlt
          have e48 : sch2 (sch1 bs 64) 48 = sched bs := rfl
          rw [e48] at h2
          clear e48
          obtain ⟨l, hle⟩ : ∃ l, l = sched bs := ⟨_, rfl⟩
          have hll : l.length = 64 := by rw [hle]; exact sched_len bs
          rw [← hle] at h2
          have Hll := Lib.hid hll
          have Hle := Lib.hid hle
          clear hll hle
          go_wp2_with (first | ((with_reducible refine gD (N := 66) rfl ?_); refine wpList_load_blk rfl 81 (.tmp 3) rfl .u32 (B + 1 + 1) l 81 _ rfl h2.out Tryd.underlying81 rfl (by rw [Hll.out]; exact size_words) ?_) | ((with_reducible refine gS (p := 2) rfl ?_); refine wpList_store_blk rfl 81 (.tmp 2) (.tmp 66) rfl .u32 (B + 1) (List.replicate 64 0) l 81 rfl rfl h1.out (by rw [Hll.out]; exact size_words) (by rw [Hll.out]; rfl) ?_))
          have g1 := h1.out.row (l := l)
          have hload := run_loadVar_row (P := Tryd.prog) _ (B + 1) 81 81 (vals .u32 l) (0, 0) _ g1 Tryd.underlying81 rfl (by rw [vals_size, Hll.out]; exact size_words)
          have gB := below_setRow hB.out (show B ≤ B + 1 by omega) (vals .u32 l)
          refine bodyPost_ret (v := .agg (vals .u32 l)) ?_ rfl ⟨by rw [Hle.out], by rw [← HBs.out]; exact gB⟩
          simp [results, Tryd.results51, Act.put, asAddr, hload]
end Go.Proofs.YtklakmooaffjpaaDoor.DgsS
end

section
/-
  The complement of a word, in plain numbers.
-/
namespace Go.Proofs.YtklakmooaffjpaaDoor.DgsR
open Go.RowKit Go.Proofs.YtklakmooaffjpaaDoorW.PrintWords Go.Proofs.YtklakmooaffjpaaDoorW.PrintMore Go.Proofs.YtklakmooaffjpaaDoor.DgsP
set_option linter.unusedVariables false
theorem xor_max (x : Nat) (hx : x < M) : 4294967295 ^^^ x = M - 1 - x := by
  rw [M_eq] at *
  have h : (BitVec.allOnes 32 ^^^ BitVec.ofNat 32 x).toNat = (~~~ BitVec.ofNat 32 x).toNat := by rw [BitVec.allOnes_xor]
  rw [BitVec.toNat_xor, BitVec.toNat_not, BitVec.toNat_ofNat, BitVec.toNat_allOnes, Nat.mod_eq_of_lt (show x < 2 ^ 32 by omega)] at h
  exact h
theorem not_cast (x : Nat) (hx : x < M) : bits .xor .u32 IntKind.u32.max (x : Int) = ((M - 1 - x : Nat) : Int) := by
  rw [← xor_max x hx]
  exact bits_xor 4294967295 x (by decide) hx
end Go.Proofs.YtklakmooaffjpaaDoor.DgsR
end
