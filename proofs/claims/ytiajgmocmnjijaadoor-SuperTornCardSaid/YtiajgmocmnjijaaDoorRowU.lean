/-
  A row of bytes of one's own: its cells, a byte set, and the text that they are.
-/
import Derived.Test.YtiajgmocmnjijaaDoorCalm
import Derived.Test.YtiajgmocmnjijaaDoorStr
import Derived.Lib.ConvBytes
namespace Go.Proofs.YtiajgmocmnjijaaDoor.RowU
open Go.RowKit Go.Proofs.YtiajgmocmnjijaaDoorW.PrintWords Go.Proofs.YtiajgmocmnjijaaDoor.Str
set_option linter.unusedVariables false
theorem data_length (a : ByteArray) : a.data.toList.length = a.size := by rw [Array.length_toList]; rfl
/-- The bytes of a row of one's own. -/
structure Row (w : World) (B : Nat) (l : List UInt8) : Prop where
  cell : ∀ j (h : j < l.length), w.cell? ⟨B, j, none⟩ = some (.int .u8 ((l[j].toNat : Nat) : Int))
  free : ∀ j, j < l.length → w.frozen? ⟨B, j, none⟩ = false
theorem Row.set {w : World} {B : Nat} {l : List UInt8} (h : Row w B l) (j : Nat) (hj : j < l.length) (v : UInt8) : Row (w.setCell ⟨B, j, none⟩ (.int .u8 ((v.toNat : Nat) : Int))) B (l.set j v) := by
  refine ⟨fun i hi => ?_, fun i hi => ?_⟩
  · rw [List.length_set] at hi
    rw [List.getElem_set]
    by_cases e : j = i
    · subst e
      rw [if_pos rfl, World.cell?_setCell_same' _ _ _ (by rw [h.cell j hj]; rfl)]
    · rw [if_neg e, World.cell?_setCell_other _ _ _ _ (by intro c; cases c; exact e rfl), h.cell i hi]
  · rw [List.length_set] at hi
    rw [World.frozen?_setCell]; exact h.free i hi
theorem Row.lt {w : World} {B : Nat} {l : List UInt8} (h : Row w B l) (hl : 0 < l.length) : B < w.heap.size := World.block_lt_of_cell? w _ (h.cell 0 hl)
theorem Row.below {w w' : World} {B : Nat} {l : List UInt8} (h : Row w B l) (hl : 0 < l.length) (hb : Below w.heap.size w w') : Row w' B l := by
  have hB := h.lt hl
  refine ⟨fun j hj => (hb.cell (p := ⟨B, j, none⟩) hB).trans (h.cell j hj), fun j hj => ?_⟩
  have := h.free j hj
  simp only [World.frozen?] at this ⊢
  rw [hb.block B hB]; exact this
theorem Row.far {w : World} {B : Nat} {l : List UInt8} (h : Row w B l) {p : Addr} (hp : B ≠ p.block) (u : Value) : Row (w.setCell p u) B l :=
  ⟨fun j hj => (World.cell?_setCell_other _ _ _ _ (by intro c; exact hp (by rw [c]))).trans (h.cell j hj), fun j hj => by rw [World.frozen?_setCell]; exact h.free j hj⟩
/-- The text that the row is. -/
def txt (l : List UInt8) : ByteArray := ⟨l.toArray⟩
theorem txt_data (l : List UInt8) : (txt l).data.toList = l := by simp [txt]
theorem txt_eq (l : List UInt8) : txt l = strOfNums (l.map fun b => (b.toNat : Int)) := by
  apply str_ext
  rw [txt_data]
  simp [strOfNums, Function.comp_def]
theorem xor_byte (x y : UInt8) : Go.bits .xor .u8 (x.toNat : Int) (y.toNat : Int) = ((x ^^^ y).toNat : Int) := by
  have hx := x.toNat_lt
  have hy := y.toNat_lt
  have h1 : Go.bits .xor .u8 (x.toNat : Int) (y.toNat : Int) = IntKind.u8.wrap ((BitVec.ofNat 8 x.toNat ^^^ BitVec.ofNat 8 y.toNat : BitVec 8).toNat : Int) := by
    simp only [Go.bits, BitVec.ofInt_natCast]; rfl
  have hz := (x ^^^ y).toNat_lt
  rw [h1, BitVec.toNat_xor, BitVec.toNat_ofNat, BitVec.toNat_ofNat, Nat.mod_eq_of_lt hx, Nat.mod_eq_of_lt hy, ← UInt8.toNat_xor, IntKind.wrap_u8]
  omega
end Go.Proofs.YtiajgmocmnjijaaDoor.RowU
