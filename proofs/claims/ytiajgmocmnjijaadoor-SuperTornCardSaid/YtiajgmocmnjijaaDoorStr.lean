/-
  Texts and lists of numbers.
-/
import Derived.Test.YtiajgmocmnjijaaDoorWWords
import Derived.Test.YtiajgmocmnjijaaDoorWMore
namespace Go.Proofs.YtiajgmocmnjijaaDoor.Str
open Go.RowKit Go.Proofs.YtiajgmocmnjijaaDoorW.PrintWords
set_option linter.unusedVariables false
theorem wr {x : Int} (h0 : 0 ≤ x) (h1 : x < 4611686018427387904) : wrap64 x = x := by unfold wrap64; omega
theorem bt_rd (s : ByteArray) (i : Int) : bt s i = rd (bytesOf s) i := by
  unfold bt rd bytesOf
  split
  · rename_i h
    simp [List.getD, h]
    rfl
  · rename_i h
    simp [List.getD, h]
theorem len_bytesOf (s : ByteArray) : (bytesOf s).length = s.size := by simp [bytesOf]
def R (l : List Int) : Prop := ∀ x ∈ l, 0 ≤ x ∧ x < 256
theorem R_bytesOf (s : ByteArray) : R (bytesOf s) := by
  intro x hx
  simp only [bytesOf, List.mem_map] at hx
  obtain ⟨b, _, rfl⟩ := hx
  have := b.toNat_lt
  omega
theorem str_bytes (s : ByteArray) : strOfNums (bytesOf s) = s := by
  have h : (strOfNums (bytesOf s)).data.toList = s.data.toList := by
    rw [strOfNums_data, bytesOf, List.map_map]
    conv => rhs; rw [← List.map_id s.data.toList]
    congr 1
    funext b
    simp
  have h2 : (strOfNums (bytesOf s)).data = s.data := by rw [← Array.toList_inj]; exact h
  cases s; cases hh : strOfNums (bytesOf _); rw [hh] at h2; simp at h2; rw [h2]
theorem bytes_str (l : List Int) (h : R l) : bytesOf (strOfNums l) = l := by
  rw [bytesOf, strOfNums_data, List.map_map]
  conv => rhs; rw [← List.map_id l]
  apply List.map_congr_left
  intro x hx
  have := h x hx
  show ((UInt8.ofNat x.toNat).toNat : Int) = x
  rw [UInt8.toNat_ofNat']
  omega
theorem bytes_inj {s t : ByteArray} (h : bytesOf s = bytesOf t) : s = t := by rw [← str_bytes s, ← str_bytes t, h]
theorem str_app (a b : List Int) : strOfNums (a ++ b) = strOfNums a ++ strOfNums b := by
  have h : (strOfNums (a ++ b)).data = (strOfNums a ++ strOfNums b).data := by
    rw [← Array.toList_inj, ByteArray.data_append, Array.toList_append]
    simp only [strOfNums_data, List.map_append]
  cases h1 : strOfNums (a ++ b); cases h2 : strOfNums a ++ strOfNums b; rw [h1, h2] at h; simp at h; rw [h]
theorem bytes_extract (s : ByteArray) (a b : Nat) : bytesOf (s.extract a b) = ((bytesOf s).take b).drop a := by
  rw [List.drop_take]; simp [bytesOf, ByteArray.data_extract, List.map_drop, List.map_take]
theorem R_nil : R [] := fun x h => by cases h
theorem R_app {a b : List Int} (ha : R a) (hb : R b) : R (a ++ b) := fun x h => (List.mem_append.1 h).elim (ha x) (hb x)
theorem R_take {a : List Int} (ha : R a) (n : Nat) : R (a.take n) := fun x h => ha x (List.mem_of_mem_take h)
theorem str_size {l : List Int} : (strOfNums l).size = l.length := strOfNums_size l
theorem str_extract {l : List Int} (h : R l) (n : Nat) : (strOfNums l).extract 0 n = strOfNums (l.take n) := by
  apply bytes_inj
  rw [bytes_extract, bytes_str l h, bytes_str _ (R_take h n)]; rfl

theorem toList_eq (s : ByteArray) : s.toList = s.data.toList := ByteArray.toList_eq s
theorem toList_inj (s t : ByteArray) : s.toList = t.toList ↔ s = t := by
  constructor
  · intro h
    rw [toList_eq, toList_eq] at h
    exact bytes_inj (by unfold bytesOf; rw [h])
  · rintro rfl; rfl
theorem str_ext {s t : ByteArray} (h : s.data.toList = t.data.toList) : s = t := bytes_inj (by unfold bytesOf; rw [h])
end Go.Proofs.YtiajgmocmnjijaaDoor.Str
