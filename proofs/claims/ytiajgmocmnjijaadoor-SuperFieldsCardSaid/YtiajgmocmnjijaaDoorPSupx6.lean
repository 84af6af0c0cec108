-- Written by a program of this session for this seat. Not trusted: Lean checks it.
import Derived.Test.YtiajgmocmnjijaaDoorPSupx0
import Derived.Test.YtiajgmocmnjijaaDoorPSupx5
namespace Go.Proofs.YtiajgmocmnjijaaDoor.PSup
open Go.RowKit Go.Proofs.YtiajgmocmnjijaaDoorW.PrintWords Go.Proofs.YtiajgmocmnjijaaDoorW.PrintLast Go.Proofs.YtiajgmocmnjijaaDoorW.PrintMore
attribute [local go_sem] max2_int min2_int max_two min_two max_three min_three max_four min_four   -- for this text's walks alone
set_option linter.unusedVariables false
set_option linter.unusedSimpArgs false
open Go.Proofs.YtiajgmocmnjijaaDoor.HW Go.Proofs.YtiajgmocmnjijaaDoor.SumH

/-! ### umbelref23_Encode: function 19 -/
def umbelref23_Encode.f (k : Nat) (a0_0 : Int) (a0_1 : Int) (a0_2 : Int) (a0_3 : Int) (a0_4 : Int) (a0_5 : Int) : Option (ByteArray) := (umbelref23_Good.f a0_0 a0_1 a0_2 a0_3 a0_4 a0_5).bind fun t218 => (if t218 = true then ((umbelref23_big.f k a0_0 4).bind fun t219 => (if 4 + t219.size ≤ 9223372036854775807 then ((umbelref23_big.f k a0_1 4).bind fun t220 => (if ((⟨#[85, 77, 66, 49]⟩ : ByteArray) ++ t219).size + t220.size ≤ 9223372036854775807 then ((umbelref23_big.f k a0_2 2).bind fun t221 => (if (((⟨#[85, 77, 66, 49]⟩ : ByteArray) ++ t219) ++ t220).size + t221.size ≤ 9223372036854775807 then ((umbelref23_big.f k a0_3 2).bind fun t222 => (if ((((⟨#[85, 77, 66, 49]⟩ : ByteArray) ++ t219) ++ t220) ++ t221).size + t222.size ≤ 9223372036854775807 then ((umbelref23_big.f k a0_4 2).bind fun t223 => (if (((((⟨#[85, 77, 66, 49]⟩ : ByteArray) ++ t219) ++ t220) ++ t221) ++ t222).size + t223.size ≤ 9223372036854775807 then ((umbelref23_big.f k a0_5 1).bind fun t224 => (if ((((((⟨#[85, 77, 66, 49]⟩ : ByteArray) ++ t219) ++ t220) ++ t221) ++ t222) ++ t223).size + t224.size ≤ 9223372036854775807 then (if 0 ≤ (wrap64 (60 - ((((((((⟨#[85, 77, 66, 49]⟩ : ByteArray) ++ t219) ++ t220) ++ t221) ++ t222) ++ t223) ++ t224).size : Int))) then (if (wrap64 (60 - ((((((((⟨#[85, 77, 66, 49]⟩ : ByteArray) ++ t219) ++ t220) ++ t221) ++ t222) ++ t223) ++ t224).size : Int)) : Int).toNat ≤ 281474976710656 then ((some (List.replicate (wrap64 (60 - ((((((((⟨#[85, 77, 66, 49]⟩ : ByteArray) ++ t219) ++ t220) ++ t221) ++ t222) ++ t223) ++ t224).size : Int)) : Int).toNat 0 : List Int)).bind fun y225 => (if (((((((⟨#[85, 77, 66, 49]⟩ : ByteArray) ++ t219) ++ t220) ++ t221) ++ t222) ++ t223) ++ t224).size + (strOfNums y225).size ≤ 9223372036854775807 then ((umbelref03_Of.f ((((((((⟨#[85, 77, 66, 49]⟩ : ByteArray) ++ t219) ++ t220) ++ t221) ++ t222) ++ t223) ++ t224) ++ (strOfNums y225))).bind fun t228 => ((umbelref03_Put.f t228).bind fun t229 => (if ((((((((⟨#[85, 77, 66, 49]⟩ : ByteArray) ++ t219) ++ t220) ++ t221) ++ t222) ++ t223) ++ t224) ++ (strOfNums y225)).size + t229.size ≤ 9223372036854775807 then (if 192 ≤ 281474976710656 then ((some (List.replicate 192 0 : List Int)).bind fun y230 => (if (((((((((⟨#[85, 77, 66, 49]⟩ : ByteArray) ++ t219) ++ t220) ++ t221) ++ t222) ++ t223) ++ t224) ++ (strOfNums y225)) ++ t229).size + (strOfNums y230).size ≤ 9223372036854775807 then (some ((((((((((⟨#[85, 77, 66, 49]⟩ : ByteArray) ++ t219) ++ t220) ++ t221) ++ t222) ++ t223) ++ t224) ++ (strOfNums y225)) ++ t229) ++ (strOfNums y230))) else (none))) else (none)) else (none)))) else (none))) else (none)) else (none)) else (none))) else (none))) else (none))) else (none))) else (none))) else (none))) else (some (⟨#[]⟩ : ByteArray)))
def umbelref23_Encode.T3 : Bool × List (List Nat × List Nat) := (true, [([], []), ([0], [0]), ([1], [1]), ([2], [2]), ([], []), ([4], [4]), ([5, 2], [5]), ([3, 6], [3, 6]), ([], []), ([8], [8]), ([9, 6], [9]), ([7, 10], [7, 10]), ([], []), ([12], [12]), ([13, 10], [13]), ([11, 14], [11, 14]), ([], []), ([16], [16]), ([17, 14], [17]), ([15, 18], [15, 18]), ([], []), ([20], [20]), ([21, 18], [21]), ([19, 22], [19, 22]), ([23, 22, 0, 1, 2, 3, 4, 5, 6, 7, 8, 9, 10, 11, 12, 13, 14, 15, 16, 17, 18, 19, 20, 21, 22, 23], [23])])
def umbelref23_Encode.B3 : List Nat := [0, 1, 3, 7, 0, 16, 55, 127, 0, 256, 887, 2047, 0, 4096, 14199, 32767, 0, 65536, 227191, 524287, 0, 1048576, 3635063, 8388607, 16777215]
theorem umbelref23_Encode.tab3 : rtab .any (opsOf Tryd.f19 3) = umbelref23_Encode.T3 := by kernel_rfl
theorem umbelref23_Encode.bits3 : waitsOk umbelref23_Encode.T3.2 umbelref23_Encode.B3 = true := by kernel_rfl
def umbelref23_Encode.T5 : Bool × List (List Nat × List Nat) := (true, [([], []), ([], []), ([1], [1]), ([2, 2], [2]), ([0, 3], [0, 3]), ([], []), ([5], [5]), ([4, 6], [4, 6]), ([7, 3, 0, 1, 2, 3, 4, 5, 6, 7], [7])])
def umbelref23_Encode.B5 : List Nat := [0, 0, 2, 6, 15, 0, 32, 127, 255]
theorem umbelref23_Encode.tab5 : rtab .any (opsOf Tryd.f19 5) = umbelref23_Encode.T5 := by kernel_rfl
theorem umbelref23_Encode.bits5 : waitsOk umbelref23_Encode.T5.2 umbelref23_Encode.B5 = true := by kernel_rfl
set_option maxHeartbeats 8000000 in
set_option maxRecDepth 100000 in
theorem umbelref23_Encode.calls (k : Nat) (a0_0 : Int) (a0_1 : Int) (a0_2 : Int) (a0_3 : Int) (a0_4 : Int) (a0_5 : Int) (r : ByteArray) (w : World) (h : umbelref23_Encode.f k a0_0 a0_1 a0_2 a0_3 a0_4 a0_5 = some r) :
    Calls Tryd.prog 19 #[.agg #[.int .i64 a0_0, .int .i64 a0_1, .int .i64 a0_2, .int .i64 a0_3, .int .i64 a0_4, .int .i64 a0_5]] w fun e w' => e = .returned (.string r) ∧ Below w.heap.size w w' := by
  have hu43 := Tryd.underlying43
  have HB := Aside0.mk (Below.refl w.heap.size w)
  have H : ((umbelref23_Good.f a0_0 a0_1 a0_2 a0_3 a0_4 a0_5).bind fun t218 => (if t218 = true then ((umbelref23_big.f k a0_0 4).bind fun t219 => (if 4 + t219.size ≤ 9223372036854775807 then ((umbelref23_big.f k a0_1 4).bind fun t220 => (if ((⟨#[85, 77, 66, 49]⟩ : ByteArray) ++ t219).size + t220.size ≤ 9223372036854775807 then ((umbelref23_big.f k a0_2 2).bind fun t221 => (if (((⟨#[85, 77, 66, 49]⟩ : ByteArray) ++ t219) ++ t220).size + t221.size ≤ 9223372036854775807 then ((umbelref23_big.f k a0_3 2).bind fun t222 => (if ((((⟨#[85, 77, 66, 49]⟩ : ByteArray) ++ t219) ++ t220) ++ t221).size + t222.size ≤ 9223372036854775807 then ((umbelref23_big.f k a0_4 2).bind fun t223 => (if (((((⟨#[85, 77, 66, 49]⟩ : ByteArray) ++ t219) ++ t220) ++ t221) ++ t222).size + t223.size ≤ 9223372036854775807 then ((umbelref23_big.f k a0_5 1).bind fun t224 => (if ((((((⟨#[85, 77, 66, 49]⟩ : ByteArray) ++ t219) ++ t220) ++ t221) ++ t222) ++ t223).size + t224.size ≤ 9223372036854775807 then (if 0 ≤ (wrap64 (60 - ((((((((⟨#[85, 77, 66, 49]⟩ : ByteArray) ++ t219) ++ t220) ++ t221) ++ t222) ++ t223) ++ t224).size : Int))) then (if (wrap64 (60 - ((((((((⟨#[85, 77, 66, 49]⟩ : ByteArray) ++ t219) ++ t220) ++ t221) ++ t222) ++ t223) ++ t224).size : Int)) : Int).toNat ≤ 281474976710656 then ((some (List.replicate (wrap64 (60 - ((((((((⟨#[85, 77, 66, 49]⟩ : ByteArray) ++ t219) ++ t220) ++ t221) ++ t222) ++ t223) ++ t224).size : Int)) : Int).toNat 0 : List Int)).bind fun y225 => (if (((((((⟨#[85, 77, 66, 49]⟩ : ByteArray) ++ t219) ++ t220) ++ t221) ++ t222) ++ t223) ++ t224).size + (strOfNums y225).size ≤ 9223372036854775807 then ((umbelref03_Of.f ((((((((⟨#[85, 77, 66, 49]⟩ : ByteArray) ++ t219) ++ t220) ++ t221) ++ t222) ++ t223) ++ t224) ++ (strOfNums y225))).bind fun t228 => ((umbelref03_Put.f t228).bind fun t229 => (if ((((((((⟨#[85, 77, 66, 49]⟩ : ByteArray) ++ t219) ++ t220) ++ t221) ++ t222) ++ t223) ++ t224) ++ (strOfNums y225)).size + t229.size ≤ 9223372036854775807 then (if 192 ≤ 281474976710656 then ((some (List.replicate 192 0 : List Int)).bind fun y230 => (if (((((((((⟨#[85, 77, 66, 49]⟩ : ByteArray) ++ t219) ++ t220) ++ t221) ++ t222) ++ t223) ++ t224) ++ (strOfNums y225)) ++ t229).size + (strOfNums y230).size ≤ 9223372036854775807 then (some ((((((((((⟨#[85, 77, 66, 49]⟩ : ByteArray) ++ t219) ++ t220) ++ t221) ++ t222) ++ t223) ++ t224) ++ (strOfNums y225)) ++ t229) ++ (strOfNums y230))) else (none))) else (none)) else (none)))) else (none))) else (none)) else (none)) else (none))) else (none))) else (none))) else (none))) else (none))) else (none))) else (some (⟨#[]⟩ : ByteArray)))) = some r := h
  clear h
  replace H := Option.bind_eq_some_iff.mp H
  obtain ⟨t218, A20, H⟩ := H
  replace H : (if t218 = true then ((umbelref23_big.f k a0_0 4).bind fun t219 => (if 4 + t219.size ≤ 9223372036854775807 then ((umbelref23_big.f k a0_1 4).bind fun t220 => (if ((⟨#[85, 77, 66, 49]⟩ : ByteArray) ++ t219).size + t220.size ≤ 9223372036854775807 then ((umbelref23_big.f k a0_2 2).bind fun t221 => (if (((⟨#[85, 77, 66, 49]⟩ : ByteArray) ++ t219) ++ t220).size + t221.size ≤ 9223372036854775807 then ((umbelref23_big.f k a0_3 2).bind fun t222 => (if ((((⟨#[85, 77, 66, 49]⟩ : ByteArray) ++ t219) ++ t220) ++ t221).size + t222.size ≤ 9223372036854775807 then ((umbelref23_big.f k a0_4 2).bind fun t223 => (if (((((⟨#[85, 77, 66, 49]⟩ : ByteArray) ++ t219) ++ t220) ++ t221) ++ t222).size + t223.size ≤ 9223372036854775807 then ((umbelref23_big.f k a0_5 1).bind fun t224 => (if ((((((⟨#[85, 77, 66, 49]⟩ : ByteArray) ++ t219) ++ t220) ++ t221) ++ t222) ++ t223).size + t224.size ≤ 9223372036854775807 then (if 0 ≤ (wrap64 (60 - ((((((((⟨#[85, 77, 66, 49]⟩ : ByteArray) ++ t219) ++ t220) ++ t221) ++ t222) ++ t223) ++ t224).size : Int))) then (if (wrap64 (60 - ((((((((⟨#[85, 77, 66, 49]⟩ : ByteArray) ++ t219) ++ t220) ++ t221) ++ t222) ++ t223) ++ t224).size : Int)) : Int).toNat ≤ 281474976710656 then ((some (List.replicate (wrap64 (60 - ((((((((⟨#[85, 77, 66, 49]⟩ : ByteArray) ++ t219) ++ t220) ++ t221) ++ t222) ++ t223) ++ t224).size : Int)) : Int).toNat 0 : List Int)).bind fun y225 => (if (((((((⟨#[85, 77, 66, 49]⟩ : ByteArray) ++ t219) ++ t220) ++ t221) ++ t222) ++ t223) ++ t224).size + (strOfNums y225).size ≤ 9223372036854775807 then ((umbelref03_Of.f ((((((((⟨#[85, 77, 66, 49]⟩ : ByteArray) ++ t219) ++ t220) ++ t221) ++ t222) ++ t223) ++ t224) ++ (strOfNums y225))).bind fun t228 => ((umbelref03_Put.f t228).bind fun t229 => (if ((((((((⟨#[85, 77, 66, 49]⟩ : ByteArray) ++ t219) ++ t220) ++ t221) ++ t222) ++ t223) ++ t224) ++ (strOfNums y225)).size + t229.size ≤ 9223372036854775807 then (if 192 ≤ 281474976710656 then ((some (List.replicate 192 0 : List Int)).bind fun y230 => (if (((((((((⟨#[85, 77, 66, 49]⟩ : ByteArray) ++ t219) ++ t220) ++ t221) ++ t222) ++ t223) ++ t224) ++ (strOfNums y225)) ++ t229).size + (strOfNums y230).size ≤ 9223372036854775807 then (some ((((((((((⟨#[85, 77, 66, 49]⟩ : ByteArray) ++ t219) ++ t220) ++ t221) ++ t222) ++ t223) ++ t224) ++ (strOfNums y225)) ++ t229) ++ (strOfNums y230))) else (none))) else (none)) else (none)))) else (none))) else (none)) else (none)) else (none))) else (none))) else (none))) else (none))) else (none))) else (none))) else (some (⟨#[]⟩ : ByteArray))) = some r := H
  have A2 := Aside0.mk A20
  clear A20
  by_cases c3 : t218 = true
  · subst c3
    have H1 : ((umbelref23_big.f k a0_0 4).bind fun t219 => (if 4 + t219.size ≤ 9223372036854775807 then ((umbelref23_big.f k a0_1 4).bind fun t220 => (if ((⟨#[85, 77, 66, 49]⟩ : ByteArray) ++ t219).size + t220.size ≤ 9223372036854775807 then ((umbelref23_big.f k a0_2 2).bind fun t221 => (if (((⟨#[85, 77, 66, 49]⟩ : ByteArray) ++ t219) ++ t220).size + t221.size ≤ 9223372036854775807 then ((umbelref23_big.f k a0_3 2).bind fun t222 => (if ((((⟨#[85, 77, 66, 49]⟩ : ByteArray) ++ t219) ++ t220) ++ t221).size + t222.size ≤ 9223372036854775807 then ((umbelref23_big.f k a0_4 2).bind fun t223 => (if (((((⟨#[85, 77, 66, 49]⟩ : ByteArray) ++ t219) ++ t220) ++ t221) ++ t222).size + t223.size ≤ 9223372036854775807 then ((umbelref23_big.f k a0_5 1).bind fun t224 => (if ((((((⟨#[85, 77, 66, 49]⟩ : ByteArray) ++ t219) ++ t220) ++ t221) ++ t222) ++ t223).size + t224.size ≤ 9223372036854775807 then (if 0 ≤ (wrap64 (60 - ((((((((⟨#[85, 77, 66, 49]⟩ : ByteArray) ++ t219) ++ t220) ++ t221) ++ t222) ++ t223) ++ t224).size : Int))) then (if (wrap64 (60 - ((((((((⟨#[85, 77, 66, 49]⟩ : ByteArray) ++ t219) ++ t220) ++ t221) ++ t222) ++ t223) ++ t224).size : Int)) : Int).toNat ≤ 281474976710656 then ((some (List.replicate (wrap64 (60 - ((((((((⟨#[85, 77, 66, 49]⟩ : ByteArray) ++ t219) ++ t220) ++ t221) ++ t222) ++ t223) ++ t224).size : Int)) : Int).toNat 0 : List Int)).bind fun y225 => (if (((((((⟨#[85, 77, 66, 49]⟩ : ByteArray) ++ t219) ++ t220) ++ t221) ++ t222) ++ t223) ++ t224).size + (strOfNums y225).size ≤ 9223372036854775807 then ((umbelref03_Of.f ((((((((⟨#[85, 77, 66, 49]⟩ : ByteArray) ++ t219) ++ t220) ++ t221) ++ t222) ++ t223) ++ t224) ++ (strOfNums y225))).bind fun t228 => ((umbelref03_Put.f t228).bind fun t229 => (if ((((((((⟨#[85, 77, 66, 49]⟩ : ByteArray) ++ t219) ++ t220) ++ t221) ++ t222) ++ t223) ++ t224) ++ (strOfNums y225)).size + t229.size ≤ 9223372036854775807 then (if 192 ≤ 281474976710656 then ((some (List.replicate 192 0 : List Int)).bind fun y230 => (if (((((((((⟨#[85, 77, 66, 49]⟩ : ByteArray) ++ t219) ++ t220) ++ t221) ++ t222) ++ t223) ++ t224) ++ (strOfNums y225)) ++ t229).size + (strOfNums y230).size ≤ 9223372036854775807 then (some ((((((((((⟨#[85, 77, 66, 49]⟩ : ByteArray) ++ t219) ++ t220) ++ t221) ++ t222) ++ t223) ++ t224) ++ (strOfNums y225)) ++ t229) ++ (strOfNums y230))) else (none))) else (none)) else (none)))) else (none))) else (none)) else (none)) else (none))) else (none))) else (none))) else (none))) else (none))) else (none))) = some r := by rw [if_pos rfl] at H; exact H
    clear H
    have H := H1
    clear H1
    replace H := Option.bind_eq_some_iff.mp H
    obtain ⟨t219, A40, H⟩ := H
    replace H : (if 4 + t219.size ≤ 9223372036854775807 then ((umbelref23_big.f k a0_1 4).bind fun t220 => (if ((⟨#[85, 77, 66, 49]⟩ : ByteArray) ++ t219).size + t220.size ≤ 9223372036854775807 then ((umbelref23_big.f k a0_2 2).bind fun t221 => (if (((⟨#[85, 77, 66, 49]⟩ : ByteArray) ++ t219) ++ t220).size + t221.size ≤ 9223372036854775807 then ((umbelref23_big.f k a0_3 2).bind fun t222 => (if ((((⟨#[85, 77, 66, 49]⟩ : ByteArray) ++ t219) ++ t220) ++ t221).size + t222.size ≤ 9223372036854775807 then ((umbelref23_big.f k a0_4 2).bind fun t223 => (if (((((⟨#[85, 77, 66, 49]⟩ : ByteArray) ++ t219) ++ t220) ++ t221) ++ t222).size + t223.size ≤ 9223372036854775807 then ((umbelref23_big.f k a0_5 1).bind fun t224 => (if ((((((⟨#[85, 77, 66, 49]⟩ : ByteArray) ++ t219) ++ t220) ++ t221) ++ t222) ++ t223).size + t224.size ≤ 9223372036854775807 then (if 0 ≤ (wrap64 (60 - ((((((((⟨#[85, 77, 66, 49]⟩ : ByteArray) ++ t219) ++ t220) ++ t221) ++ t222) ++ t223) ++ t224).size : Int))) then (if (wrap64 (60 - ((((((((⟨#[85, 77, 66, 49]⟩ : ByteArray) ++ t219) ++ t220) ++ t221) ++ t222) ++ t223) ++ t224).size : Int)) : Int).toNat ≤ 281474976710656 then ((some (List.replicate (wrap64 (60 - ((((((((⟨#[85, 77, 66, 49]⟩ : ByteArray) ++ t219) ++ t220) ++ t221) ++ t222) ++ t223) ++ t224).size : Int)) : Int).toNat 0 : List Int)).bind fun y225 => (if (((((((⟨#[85, 77, 66, 49]⟩ : ByteArray) ++ t219) ++ t220) ++ t221) ++ t222) ++ t223) ++ t224).size + (strOfNums y225).size ≤ 9223372036854775807 then ((umbelref03_Of.f ((((((((⟨#[85, 77, 66, 49]⟩ : ByteArray) ++ t219) ++ t220) ++ t221) ++ t222) ++ t223) ++ t224) ++ (strOfNums y225))).bind fun t228 => ((umbelref03_Put.f t228).bind fun t229 => (if ((((((((⟨#[85, 77, 66, 49]⟩ : ByteArray) ++ t219) ++ t220) ++ t221) ++ t222) ++ t223) ++ t224) ++ (strOfNums y225)).size + t229.size ≤ 9223372036854775807 then (if 192 ≤ 281474976710656 then ((some (List.replicate 192 0 : List Int)).bind fun y230 => (if (((((((((⟨#[85, 77, 66, 49]⟩ : ByteArray) ++ t219) ++ t220) ++ t221) ++ t222) ++ t223) ++ t224) ++ (strOfNums y225)) ++ t229).size + (strOfNums y230).size ≤ 9223372036854775807 then (some ((((((((((⟨#[85, 77, 66, 49]⟩ : ByteArray) ++ t219) ++ t220) ++ t221) ++ t222) ++ t223) ++ t224) ++ (strOfNums y225)) ++ t229) ++ (strOfNums y230))) else (none))) else (none)) else (none)))) else (none))) else (none)) else (none)) else (none))) else (none))) else (none))) else (none))) else (none))) else (none)) = some r := H
    have A4 := Aside0.mk A40
    clear A40
    by_cases c5 : 4 + t219.size ≤ 9223372036854775807
    · rw [if_pos c5] at H
      have c5b0 := eq_true c5
      have c5b1 : decide (4 + t219.size ≤ 9223372036854775807) = true := decide_eq_true c5
      try have c5b2 : (9223372036854775807 < 4 + t219.size) = False := eq_false (Nat.not_lt.2 c5)
      replace H := Option.bind_eq_some_iff.mp H
      obtain ⟨t220, A60, H⟩ := H
      replace H : (if ((⟨#[85, 77, 66, 49]⟩ : ByteArray) ++ t219).size + t220.size ≤ 9223372036854775807 then ((umbelref23_big.f k a0_2 2).bind fun t221 => (if (((⟨#[85, 77, 66, 49]⟩ : ByteArray) ++ t219) ++ t220).size + t221.size ≤ 9223372036854775807 then ((umbelref23_big.f k a0_3 2).bind fun t222 => (if ((((⟨#[85, 77, 66, 49]⟩ : ByteArray) ++ t219) ++ t220) ++ t221).size + t222.size ≤ 9223372036854775807 then ((umbelref23_big.f k a0_4 2).bind fun t223 => (if (((((⟨#[85, 77, 66, 49]⟩ : ByteArray) ++ t219) ++ t220) ++ t221) ++ t222).size + t223.size ≤ 9223372036854775807 then ((umbelref23_big.f k a0_5 1).bind fun t224 => (if ((((((⟨#[85, 77, 66, 49]⟩ : ByteArray) ++ t219) ++ t220) ++ t221) ++ t222) ++ t223).size + t224.size ≤ 9223372036854775807 then (if 0 ≤ (wrap64 (60 - ((((((((⟨#[85, 77, 66, 49]⟩ : ByteArray) ++ t219) ++ t220) ++ t221) ++ t222) ++ t223) ++ t224).size : Int))) then (if (wrap64 (60 - ((((((((⟨#[85, 77, 66, 49]⟩ : ByteArray) ++ t219) ++ t220) ++ t221) ++ t222) ++ t223) ++ t224).size : Int)) : Int).toNat ≤ 281474976710656 then ((some (List.replicate (wrap64 (60 - ((((((((⟨#[85, 77, 66, 49]⟩ : ByteArray) ++ t219) ++ t220) ++ t221) ++ t222) ++ t223) ++ t224).size : Int)) : Int).toNat 0 : List Int)).bind fun y225 => (if (((((((⟨#[85, 77, 66, 49]⟩ : ByteArray) ++ t219) ++ t220) ++ t221) ++ t222) ++ t223) ++ t224).size + (strOfNums y225).size ≤ 9223372036854775807 then ((umbelref03_Of.f ((((((((⟨#[85, 77, 66, 49]⟩ : ByteArray) ++ t219) ++ t220) ++ t221) ++ t222) ++ t223) ++ t224) ++ (strOfNums y225))).bind fun t228 => ((umbelref03_Put.f t228).bind fun t229 => (if ((((((((⟨#[85, 77, 66, 49]⟩ : ByteArray) ++ t219) ++ t220) ++ t221) ++ t222) ++ t223) ++ t224) ++ (strOfNums y225)).size + t229.size ≤ 9223372036854775807 then (if 192 ≤ 281474976710656 then ((some (List.replicate 192 0 : List Int)).bind fun y230 => (if (((((((((⟨#[85, 77, 66, 49]⟩ : ByteArray) ++ t219) ++ t220) ++ t221) ++ t222) ++ t223) ++ t224) ++ (strOfNums y225)) ++ t229).size + (strOfNums y230).size ≤ 9223372036854775807 then (some ((((((((((⟨#[85, 77, 66, 49]⟩ : ByteArray) ++ t219) ++ t220) ++ t221) ++ t222) ++ t223) ++ t224) ++ (strOfNums y225)) ++ t229) ++ (strOfNums y230))) else (none))) else (none)) else (none)))) else (none))) else (none)) else (none)) else (none))) else (none))) else (none))) else (none))) else (none)) = some r := H
      have A6 := Aside0.mk A60
      clear A60
      by_cases c7 : ((⟨#[85, 77, 66, 49]⟩ : ByteArray) ++ t219).size + t220.size ≤ 9223372036854775807
      · rw [if_pos c7] at H
        have c7b0 := eq_true c7
        have c7b1 : decide (((⟨#[85, 77, 66, 49]⟩ : ByteArray) ++ t219).size + t220.size ≤ 9223372036854775807) = true := decide_eq_true c7
        try have c7b2 : (9223372036854775807 < ((⟨#[85, 77, 66, 49]⟩ : ByteArray) ++ t219).size + t220.size) = False := eq_false (Nat.not_lt.2 c7)
        try have c7b2s_ := c7b2
        try simp only [ByteArray.size_append, (show (⟨#[85, 77, 66, 49]⟩ : ByteArray).size = 4 from rfl)] at c7b2s_
        replace H := Option.bind_eq_some_iff.mp H
        obtain ⟨t221, A80, H⟩ := H
        replace H : (if (((⟨#[85, 77, 66, 49]⟩ : ByteArray) ++ t219) ++ t220).size + t221.size ≤ 9223372036854775807 then ((umbelref23_big.f k a0_3 2).bind fun t222 => (if ((((⟨#[85, 77, 66, 49]⟩ : ByteArray) ++ t219) ++ t220) ++ t221).size + t222.size ≤ 9223372036854775807 then ((umbelref23_big.f k a0_4 2).bind fun t223 => (if (((((⟨#[85, 77, 66, 49]⟩ : ByteArray) ++ t219) ++ t220) ++ t221) ++ t222).size + t223.size ≤ 9223372036854775807 then ((umbelref23_big.f k a0_5 1).bind fun t224 => (if ((((((⟨#[85, 77, 66, 49]⟩ : ByteArray) ++ t219) ++ t220) ++ t221) ++ t222) ++ t223).size + t224.size ≤ 9223372036854775807 then (if 0 ≤ (wrap64 (60 - ((((((((⟨#[85, 77, 66, 49]⟩ : ByteArray) ++ t219) ++ t220) ++ t221) ++ t222) ++ t223) ++ t224).size : Int))) then (if (wrap64 (60 - ((((((((⟨#[85, 77, 66, 49]⟩ : ByteArray) ++ t219) ++ t220) ++ t221) ++ t222) ++ t223) ++ t224).size : Int)) : Int).toNat ≤ 281474976710656 then ((some (List.replicate (wrap64 (60 - ((((((((⟨#[85, 77, 66, 49]⟩ : ByteArray) ++ t219) ++ t220) ++ t221) ++ t222) ++ t223) ++ t224).size : Int)) : Int).toNat 0 : List Int)).bind fun y225 => (if (((((((⟨#[85, 77, 66, 49]⟩ : ByteArray) ++ t219) ++ t220) ++ t221) ++ t222) ++ t223) ++ t224).size + (strOfNums y225).size ≤ 9223372036854775807 then ((umbelref03_Of.f ((((((((⟨#[85, 77, 66, 49]⟩ : ByteArray) ++ t219) ++ t220) ++ t221) ++ t222) ++ t223) ++ t224) ++ (strOfNums y225))).bind fun t228 => ((umbelref03_Put.f t228).bind fun t229 => (if ((((((((⟨#[85, 77, 66, 49]⟩ : ByteArray) ++ t219) ++ t220) ++ t221) ++ t222) ++ t223) ++ t224) ++ (strOfNums y225)).size + t229.size ≤ 9223372036854775807 then (if 192 ≤ 281474976710656 then ((some (List.replicate 192 0 : List Int)).bind fun y230 => (if (((((((((⟨#[85, 77, 66, 49]⟩ : ByteArray) ++ t219) ++ t220) ++ t221) ++ t222) ++ t223) ++ t224) ++ (strOfNums y225)) ++ t229).size + (strOfNums y230).size ≤ 9223372036854775807 then (some ((((((((((⟨#[85, 77, 66, 49]⟩ : ByteArray) ++ t219) ++ t220) ++ t221) ++ t222) ++ t223) ++ t224) ++ (strOfNums y225)) ++ t229) ++ (strOfNums y230))) else (none))) else (none)) else (none)))) else (none))) else (none)) else (none)) else (none))) else (none))) else (none))) else (none)) = some r := H
        have A8 := Aside0.mk A80
        clear A80
        by_cases c9 : (((⟨#[85, 77, 66, 49]⟩ : ByteArray) ++ t219) ++ t220).size + t221.size ≤ 9223372036854775807
        · rw [if_pos c9] at H
          have c9b0 := eq_true c9
          have c9b1 : decide ((((⟨#[85, 77, 66, 49]⟩ : ByteArray) ++ t219) ++ t220).size + t221.size ≤ 9223372036854775807) = true := decide_eq_true c9
          try have c9b2 : (9223372036854775807 < (((⟨#[85, 77, 66, 49]⟩ : ByteArray) ++ t219) ++ t220).size + t221.size) = False := eq_false (Nat.not_lt.2 c9)
          try have c9b2s_ := c9b2
          try simp only [ByteArray.size_append, (show (⟨#[85, 77, 66, 49]⟩ : ByteArray).size = 4 from rfl)] at c9b2s_
          replace H := Option.bind_eq_some_iff.mp H
          obtain ⟨t222, A100, H⟩ := H
          replace H : (if ((((⟨#[85, 77, 66, 49]⟩ : ByteArray) ++ t219) ++ t220) ++ t221).size + t222.size ≤ 9223372036854775807 then ((umbelref23_big.f k a0_4 2).bind fun t223 => (if (((((⟨#[85, 77, 66, 49]⟩ : ByteArray) ++ t219) ++ t220) ++ t221) ++ t222).size + t223.size ≤ 9223372036854775807 then ((umbelref23_big.f k a0_5 1).bind fun t224 => (if ((((((⟨#[85, 77, 66, 49]⟩ : ByteArray) ++ t219) ++ t220) ++ t221) ++ t222) ++ t223).size + t224.size ≤ 9223372036854775807 then (if 0 ≤ (wrap64 (60 - ((((((((⟨#[85, 77, 66, 49]⟩ : ByteArray) ++ t219) ++ t220) ++ t221) ++ t222) ++ t223) ++ t224).size : Int))) then (if (wrap64 (60 - ((((((((⟨#[85, 77, 66, 49]⟩ : ByteArray) ++ t219) ++ t220) ++ t221) ++ t222) ++ t223) ++ t224).size : Int)) : Int).toNat ≤ 281474976710656 then ((some (List.replicate (wrap64 (60 - ((((((((⟨#[85, 77, 66, 49]⟩ : ByteArray) ++ t219) ++ t220) ++ t221) ++ t222) ++ t223) ++ t224).size : Int)) : Int).toNat 0 : List Int)).bind fun y225 => (if (((((((⟨#[85, 77, 66, 49]⟩ : ByteArray) ++ t219) ++ t220) ++ t221) ++ t222) ++ t223) ++ t224).size + (strOfNums y225).size ≤ 9223372036854775807 then ((umbelref03_Of.f ((((((((⟨#[85, 77, 66, 49]⟩ : ByteArray) ++ t219) ++ t220) ++ t221) ++ t222) ++ t223) ++ t224) ++ (strOfNums y225))).bind fun t228 => ((umbelref03_Put.f t228).bind fun t229 => (if ((((((((⟨#[85, 77, 66, 49]⟩ : ByteArray) ++ t219) ++ t220) ++ t221) ++ t222) ++ t223) ++ t224) ++ (strOfNums y225)).size + t229.size ≤ 9223372036854775807 then (if 192 ≤ 281474976710656 then ((some (List.replicate 192 0 : List Int)).bind fun y230 => (if (((((((((⟨#[85, 77, 66, 49]⟩ : ByteArray) ++ t219) ++ t220) ++ t221) ++ t222) ++ t223) ++ t224) ++ (strOfNums y225)) ++ t229).size + (strOfNums y230).size ≤ 9223372036854775807 then (some ((((((((((⟨#[85, 77, 66, 49]⟩ : ByteArray) ++ t219) ++ t220) ++ t221) ++ t222) ++ t223) ++ t224) ++ (strOfNums y225)) ++ t229) ++ (strOfNums y230))) else (none))) else (none)) else (none)))) else (none))) else (none)) else (none)) else (none))) else (none))) else (none)) = some r := H
          have A10 := Aside0.mk A100
          clear A100
          by_cases c11 : ((((⟨#[85, 77, 66, 49]⟩ : ByteArray) ++ t219) ++ t220) ++ t221).size + t222.size ≤ 9223372036854775807
          · rw [if_pos c11] at H
            have c11b0 := eq_true c11
            have c11b1 : decide (((((⟨#[85, 77, 66, 49]⟩ : ByteArray) ++ t219) ++ t220) ++ t221).size + t222.size ≤ 9223372036854775807) = true := decide_eq_true c11
            try have c11b2 : (9223372036854775807 < ((((⟨#[85, 77, 66, 49]⟩ : ByteArray) ++ t219) ++ t220) ++ t221).size + t222.size) = False := eq_false (Nat.not_lt.2 c11)
            try have c11b2s_ := c11b2
            try simp only [ByteArray.size_append, (show (⟨#[85, 77, 66, 49]⟩ : ByteArray).size = 4 from rfl)] at c11b2s_
            replace H := Option.bind_eq_some_iff.mp H
            obtain ⟨t223, A120, H⟩ := H
            replace H : (if (((((⟨#[85, 77, 66, 49]⟩ : ByteArray) ++ t219) ++ t220) ++ t221) ++ t222).size + t223.size ≤ 9223372036854775807 then ((umbelref23_big.f k a0_5 1).bind fun t224 => (if ((((((⟨#[85, 77, 66, 49]⟩ : ByteArray) ++ t219) ++ t220) ++ t221) ++ t222) ++ t223).size + t224.size ≤ 9223372036854775807 then (if 0 ≤ (wrap64 (60 - ((((((((⟨#[85, 77, 66, 49]⟩ : ByteArray) ++ t219) ++ t220) ++ t221) ++ t222) ++ t223) ++ t224).size : Int))) then (if (wrap64 (60 - ((((((((⟨#[85, 77, 66, 49]⟩ : ByteArray) ++ t219) ++ t220) ++ t221) ++ t222) ++ t223) ++ t224).size : Int)) : Int).toNat ≤ 281474976710656 then ((some (List.replicate (wrap64 (60 - ((((((((⟨#[85, 77, 66, 49]⟩ : ByteArray) ++ t219) ++ t220) ++ t221) ++ t222) ++ t223) ++ t224).size : Int)) : Int).toNat 0 : List Int)).bind fun y225 => (if (((((((⟨#[85, 77, 66, 49]⟩ : ByteArray) ++ t219) ++ t220) ++ t221) ++ t222) ++ t223) ++ t224).size + (strOfNums y225).size ≤ 9223372036854775807 then ((umbelref03_Of.f ((((((((⟨#[85, 77, 66, 49]⟩ : ByteArray) ++ t219) ++ t220) ++ t221) ++ t222) ++ t223) ++ t224) ++ (strOfNums y225))).bind fun t228 => ((umbelref03_Put.f t228).bind fun t229 => (if ((((((((⟨#[85, 77, 66, 49]⟩ : ByteArray) ++ t219) ++ t220) ++ t221) ++ t222) ++ t223) ++ t224) ++ (strOfNums y225)).size + t229.size ≤ 9223372036854775807 then (if 192 ≤ 281474976710656 then ((some (List.replicate 192 0 : List Int)).bind fun y230 => (if (((((((((⟨#[85, 77, 66, 49]⟩ : ByteArray) ++ t219) ++ t220) ++ t221) ++ t222) ++ t223) ++ t224) ++ (strOfNums y225)) ++ t229).size + (strOfNums y230).size ≤ 9223372036854775807 then (some ((((((((((⟨#[85, 77, 66, 49]⟩ : ByteArray) ++ t219) ++ t220) ++ t221) ++ t222) ++ t223) ++ t224) ++ (strOfNums y225)) ++ t229) ++ (strOfNums y230))) else (none))) else (none)) else (none)))) else (none))) else (none)) else (none)) else (none))) else (none)) = some r := H
            have A12 := Aside0.mk A120
            clear A120
            by_cases c13 : (((((⟨#[85, 77, 66, 49]⟩ : ByteArray) ++ t219) ++ t220) ++ t221) ++ t222).size + t223.size ≤ 9223372036854775807
            · rw [if_pos c13] at H
              have c13b0 := eq_true c13
              have c13b1 : decide ((((((⟨#[85, 77, 66, 49]⟩ : ByteArray) ++ t219) ++ t220) ++ t221) ++ t222).size + t223.size ≤ 9223372036854775807) = true := decide_eq_true c13
              try have c13b2 : (9223372036854775807 < (((((⟨#[85, 77, 66, 49]⟩ : ByteArray) ++ t219) ++ t220) ++ t221) ++ t222).size + t223.size) = False := eq_false (Nat.not_lt.2 c13)
              try have c13b2s_ := c13b2
              try simp only [ByteArray.size_append, (show (⟨#[85, 77, 66, 49]⟩ : ByteArray).size = 4 from rfl)] at c13b2s_
              replace H := Option.bind_eq_some_iff.mp H
              obtain ⟨t224, A140, H⟩ := H
              replace H : (if ((((((⟨#[85, 77, 66, 49]⟩ : ByteArray) ++ t219) ++ t220) ++ t221) ++ t222) ++ t223).size + t224.size ≤ 9223372036854775807 then (if 0 ≤ (wrap64 (60 - ((((((((⟨#[85, 77, 66, 49]⟩ : ByteArray) ++ t219) ++ t220) ++ t221) ++ t222) ++ t223) ++ t224).size : Int))) then (if (wrap64 (60 - ((((((((⟨#[85, 77, 66, 49]⟩ : ByteArray) ++ t219) ++ t220) ++ t221) ++ t222) ++ t223) ++ t224).size : Int)) : Int).toNat ≤ 281474976710656 then ((some (List.replicate (wrap64 (60 - ((((((((⟨#[85, 77, 66, 49]⟩ : ByteArray) ++ t219) ++ t220) ++ t221) ++ t222) ++ t223) ++ t224).size : Int)) : Int).toNat 0 : List Int)).bind fun y225 => (if (((((((⟨#[85, 77, 66, 49]⟩ : ByteArray) ++ t219) ++ t220) ++ t221) ++ t222) ++ t223) ++ t224).size + (strOfNums y225).size ≤ 9223372036854775807 then ((umbelref03_Of.f ((((((((⟨#[85, 77, 66, 49]⟩ : ByteArray) ++ t219) ++ t220) ++ t221) ++ t222) ++ t223) ++ t224) ++ (strOfNums y225))).bind fun t228 => ((umbelref03_Put.f t228).bind fun t229 => (if ((((((((⟨#[85, 77, 66, 49]⟩ : ByteArray) ++ t219) ++ t220) ++ t221) ++ t222) ++ t223) ++ t224) ++ (strOfNums y225)).size + t229.size ≤ 9223372036854775807 then (if 192 ≤ 281474976710656 then ((some (List.replicate 192 0 : List Int)).bind fun y230 => (if (((((((((⟨#[85, 77, 66, 49]⟩ : ByteArray) ++ t219) ++ t220) ++ t221) ++ t222) ++ t223) ++ t224) ++ (strOfNums y225)) ++ t229).size + (strOfNums y230).size ≤ 9223372036854775807 then (some ((((((((((⟨#[85, 77, 66, 49]⟩ : ByteArray) ++ t219) ++ t220) ++ t221) ++ t222) ++ t223) ++ t224) ++ (strOfNums y225)) ++ t229) ++ (strOfNums y230))) else (none))) else (none)) else (none)))) else (none))) else (none)) else (none)) else (none)) = some r := H
              have A14 := Aside0.mk A140
              clear A140
              by_cases c15 : ((((((⟨#[85, 77, 66, 49]⟩ : ByteArray) ++ t219) ++ t220) ++ t221) ++ t222) ++ t223).size + t224.size ≤ 9223372036854775807
              · rw [if_pos c15] at H
                have c15b0 := eq_true c15
                have c15b1 : decide (((((((⟨#[85, 77, 66, 49]⟩ : ByteArray) ++ t219) ++ t220) ++ t221) ++ t222) ++ t223).size + t224.size ≤ 9223372036854775807) = true := decide_eq_true c15
                try have c15b2 : (9223372036854775807 < ((((((⟨#[85, 77, 66, 49]⟩ : ByteArray) ++ t219) ++ t220) ++ t221) ++ t222) ++ t223).size + t224.size) = False := eq_false (Nat.not_lt.2 c15)
                try have c15b2s_ := c15b2
                try simp only [ByteArray.size_append, (show (⟨#[85, 77, 66, 49]⟩ : ByteArray).size = 4 from rfl)] at c15b2s_
                obtain ⟨ji16, hji16⟩ : ∃ j_ : Int, (wrap64 (60 - ((((((((⟨#[85, 77, 66, 49]⟩ : ByteArray) ++ t219) ++ t220) ++ t221) ++ t222) ++ t223) ++ t224).size : Int))) = j_ := ⟨_, rfl⟩
                replace H : (if 0 ≤ (ji16) then (if (ji16 : Int).toNat ≤ 281474976710656 then ((some (List.replicate (ji16 : Int).toNat 0 : List Int)).bind fun y225 => (if (((((((⟨#[85, 77, 66, 49]⟩ : ByteArray) ++ t219) ++ t220) ++ t221) ++ t222) ++ t223) ++ t224).size + (strOfNums y225).size ≤ 9223372036854775807 then ((umbelref03_Of.f ((((((((⟨#[85, 77, 66, 49]⟩ : ByteArray) ++ t219) ++ t220) ++ t221) ++ t222) ++ t223) ++ t224) ++ (strOfNums y225))).bind fun t228 => ((umbelref03_Put.f t228).bind fun t229 => (if ((((((((⟨#[85, 77, 66, 49]⟩ : ByteArray) ++ t219) ++ t220) ++ t221) ++ t222) ++ t223) ++ t224) ++ (strOfNums y225)).size + t229.size ≤ 9223372036854775807 then (if 192 ≤ 281474976710656 then ((some (List.replicate 192 0 : List Int)).bind fun y230 => (if (((((((((⟨#[85, 77, 66, 49]⟩ : ByteArray) ++ t219) ++ t220) ++ t221) ++ t222) ++ t223) ++ t224) ++ (strOfNums y225)) ++ t229).size + (strOfNums y230).size ≤ 9223372036854775807 then (some ((((((((((⟨#[85, 77, 66, 49]⟩ : ByteArray) ++ t219) ++ t220) ++ t221) ++ t222) ++ t223) ++ t224) ++ (strOfNums y225)) ++ t229) ++ (strOfNums y230))) else (none))) else (none)) else (none)))) else (none))) else (none)) else (none)) = some r := by first | (rw [hji16] at H; exact H) | (simp only [hji16] at H ⊢; exact H)
                (try rw [hji16] at A2)
                (try rw [hji16] at A4)
                (try rw [hji16] at A6)
                (try rw [hji16] at A8)
                (try rw [hji16] at A10)
                (try rw [hji16] at A12)
                (try rw [hji16] at A14)
                have hji16w : (IntKind.i64.wrap (60 - ((((((((⟨#[85, 77, 66, 49]⟩ : ByteArray) ++ t219) ++ t220) ++ t221) ++ t222) ++ t223) ++ t224).size : Int))) = ji16 := (i64_w _).trans hji16
                have hji16s := hji16
                simp only [ByteArray.size_append, Int.natCast_add, (show ((4 : Nat) : Int) = 4 from rfl), (show (⟨#[85, 77, 66, 49]⟩ : ByteArray).size = 4 from rfl)] at hji16s
                by_cases c17 : 0 ≤ (ji16)
                · rw [if_pos c17] at H
                  have c17b0 := eq_true c17
                  have c17b1 : decide (0 ≤ (ji16)) = true := decide_eq_true c17
                  clear c17
                  by_cases c18 : (ji16 : Int).toNat ≤ 281474976710656
                  · rw [if_pos c18] at H
                    have c18b0 := eq_true c18
                    have c18b1 : decide ((ji16 : Int).toNat ≤ 281474976710656) = true := decide_eq_true c18
                    clear c18
                    obtain ⟨y225, hy225⟩ : ∃ y_ : List Int, y_ = (List.replicate (ji16 : Int).toNat 0) := ⟨_, rfl⟩
                    replace H : (if (((((((⟨#[85, 77, 66, 49]⟩ : ByteArray) ++ t219) ++ t220) ++ t221) ++ t222) ++ t223) ++ t224).size + (strOfNums y225).size ≤ 9223372036854775807 then ((umbelref03_Of.f ((((((((⟨#[85, 77, 66, 49]⟩ : ByteArray) ++ t219) ++ t220) ++ t221) ++ t222) ++ t223) ++ t224) ++ (strOfNums y225))).bind fun t228 => ((umbelref03_Put.f t228).bind fun t229 => (if ((((((((⟨#[85, 77, 66, 49]⟩ : ByteArray) ++ t219) ++ t220) ++ t221) ++ t222) ++ t223) ++ t224) ++ (strOfNums y225)).size + t229.size ≤ 9223372036854775807 then (if 192 ≤ 281474976710656 then ((some (List.replicate 192 0 : List Int)).bind fun y230 => (if (((((((((⟨#[85, 77, 66, 49]⟩ : ByteArray) ++ t219) ++ t220) ++ t221) ++ t222) ++ t223) ++ t224) ++ (strOfNums y225)) ++ t229).size + (strOfNums y230).size ≤ 9223372036854775807 then (some ((((((((((⟨#[85, 77, 66, 49]⟩ : ByteArray) ++ t219) ++ t220) ++ t221) ++ t222) ++ t223) ++ t224) ++ (strOfNums y225)) ++ t229) ++ (strOfNums y230))) else (none))) else (none)) else (none)))) else (none)) = some r := by first | (rw [hy225]; with_reducible exact H) | (have H2_ := (Option.bind_some _ _).symm.trans H; rw [hy225]; with_reducible exact H2_) | (have H2_ := (Option.bind_some _ _).symm.trans H; with_reducible exact H2_) | with_reducible exact H | (rw [hy225]; exact H) | exact H
                    have Ny225 := Aside0.mk hy225
                    clear hy225
                    by_cases c19 : (((((((⟨#[85, 77, 66, 49]⟩ : ByteArray) ++ t219) ++ t220) ++ t221) ++ t222) ++ t223) ++ t224).size + (strOfNums y225).size ≤ 9223372036854775807
                    · rw [if_pos c19] at H
                      have c19b0 := eq_true c19
                      have c19b1 : decide ((((((((⟨#[85, 77, 66, 49]⟩ : ByteArray) ++ t219) ++ t220) ++ t221) ++ t222) ++ t223) ++ t224).size + (strOfNums y225).size ≤ 9223372036854775807) = true := decide_eq_true c19
                      try have c19b2 : (9223372036854775807 < (((((((⟨#[85, 77, 66, 49]⟩ : ByteArray) ++ t219) ++ t220) ++ t221) ++ t222) ++ t223) ++ t224).size + (strOfNums y225).size) = False := eq_false (Nat.not_lt.2 c19)
                      try have c19b2s_ := c19b2
                      try simp only [ByteArray.size_append, (show (⟨#[85, 77, 66, 49]⟩ : ByteArray).size = 4 from rfl)] at c19b2s_
                      replace H := Option.bind_eq_some_iff.mp H
                      obtain ⟨t228, A200, H⟩ := H
                      replace H : ((umbelref03_Put.f t228).bind fun t229 => (if ((((((((⟨#[85, 77, 66, 49]⟩ : ByteArray) ++ t219) ++ t220) ++ t221) ++ t222) ++ t223) ++ t224) ++ (strOfNums y225)).size + t229.size ≤ 9223372036854775807 then (if 192 ≤ 281474976710656 then ((some (List.replicate 192 0 : List Int)).bind fun y230 => (if (((((((((⟨#[85, 77, 66, 49]⟩ : ByteArray) ++ t219) ++ t220) ++ t221) ++ t222) ++ t223) ++ t224) ++ (strOfNums y225)) ++ t229).size + (strOfNums y230).size ≤ 9223372036854775807 then (some ((((((((((⟨#[85, 77, 66, 49]⟩ : ByteArray) ++ t219) ++ t220) ++ t221) ++ t222) ++ t223) ++ t224) ++ (strOfNums y225)) ++ t229) ++ (strOfNums y230))) else (none))) else (none)) else (none))) = some r := H
                      have A20 := Aside0.mk A200
                      clear A200
                      replace H := Option.bind_eq_some_iff.mp H
                      obtain ⟨t229, A210, H⟩ := H
                      replace H : (if ((((((((⟨#[85, 77, 66, 49]⟩ : ByteArray) ++ t219) ++ t220) ++ t221) ++ t222) ++ t223) ++ t224) ++ (strOfNums y225)).size + t229.size ≤ 9223372036854775807 then (if 192 ≤ 281474976710656 then ((some (List.replicate 192 0 : List Int)).bind fun y230 => (if (((((((((⟨#[85, 77, 66, 49]⟩ : ByteArray) ++ t219) ++ t220) ++ t221) ++ t222) ++ t223) ++ t224) ++ (strOfNums y225)) ++ t229).size + (strOfNums y230).size ≤ 9223372036854775807 then (some ((((((((((⟨#[85, 77, 66, 49]⟩ : ByteArray) ++ t219) ++ t220) ++ t221) ++ t222) ++ t223) ++ t224) ++ (strOfNums y225)) ++ t229) ++ (strOfNums y230))) else (none))) else (none)) else (none)) = some r := H
                      have A21 := Aside0.mk A210
                      clear A210
                      by_cases c22 : ((((((((⟨#[85, 77, 66, 49]⟩ : ByteArray) ++ t219) ++ t220) ++ t221) ++ t222) ++ t223) ++ t224) ++ (strOfNums y225)).size + t229.size ≤ 9223372036854775807
                      · rw [if_pos c22] at H
                        have c22b0 := eq_true c22
                        have c22b1 : decide (((((((((⟨#[85, 77, 66, 49]⟩ : ByteArray) ++ t219) ++ t220) ++ t221) ++ t222) ++ t223) ++ t224) ++ (strOfNums y225)).size + t229.size ≤ 9223372036854775807) = true := decide_eq_true c22
                        try have c22b2 : (9223372036854775807 < ((((((((⟨#[85, 77, 66, 49]⟩ : ByteArray) ++ t219) ++ t220) ++ t221) ++ t222) ++ t223) ++ t224) ++ (strOfNums y225)).size + t229.size) = False := eq_false (Nat.not_lt.2 c22)
                        try have c22b2s_ := c22b2
                        try simp only [ByteArray.size_append, (show (⟨#[85, 77, 66, 49]⟩ : ByteArray).size = 4 from rfl)] at c22b2s_
                        by_cases c23 : 192 ≤ 281474976710656
                        · rw [if_pos c23] at H
                          have c23b0 := eq_true c23
                          have c23b1 : decide (192 ≤ 281474976710656) = true := decide_eq_true c23
                          clear c23
                          obtain ⟨y230, hy230⟩ : ∃ y_ : List Int, y_ = (List.replicate 192 0) := ⟨_, rfl⟩
                          replace H : (if (((((((((⟨#[85, 77, 66, 49]⟩ : ByteArray) ++ t219) ++ t220) ++ t221) ++ t222) ++ t223) ++ t224) ++ (strOfNums y225)) ++ t229).size + (strOfNums y230).size ≤ 9223372036854775807 then (some ((((((((((⟨#[85, 77, 66, 49]⟩ : ByteArray) ++ t219) ++ t220) ++ t221) ++ t222) ++ t223) ++ t224) ++ (strOfNums y225)) ++ t229) ++ (strOfNums y230))) else (none)) = some r := by first | (rw [hy230]; with_reducible exact H) | (have H2_ := (Option.bind_some _ _).symm.trans H; rw [hy230]; with_reducible exact H2_) | (have H2_ := (Option.bind_some _ _).symm.trans H; with_reducible exact H2_) | with_reducible exact H | (rw [hy230]; exact H) | exact H
                          have Ny230 := Aside0.mk hy230
                          clear hy230
                          by_cases c24 : (((((((((⟨#[85, 77, 66, 49]⟩ : ByteArray) ++ t219) ++ t220) ++ t221) ++ t222) ++ t223) ++ t224) ++ (strOfNums y225)) ++ t229).size + (strOfNums y230).size ≤ 9223372036854775807
                          · rw [if_pos c24] at H
                            have c24b0 := eq_true c24
                            have c24b1 : decide ((((((((((⟨#[85, 77, 66, 49]⟩ : ByteArray) ++ t219) ++ t220) ++ t221) ++ t222) ++ t223) ++ t224) ++ (strOfNums y225)) ++ t229).size + (strOfNums y230).size ≤ 9223372036854775807) = true := decide_eq_true c24
                            try have c24b2 : (9223372036854775807 < (((((((((⟨#[85, 77, 66, 49]⟩ : ByteArray) ++ t219) ++ t220) ++ t221) ++ t222) ++ t223) ++ t224) ++ (strOfNums y225)) ++ t229).size + (strOfNums y230).size) = False := eq_false (Nat.not_lt.2 c24)
                            try have c24b2s_ := c24b2
                            try simp only [ByteArray.size_append, (show (⟨#[85, 77, 66, 49]⟩ : ByteArray).size = 4 from rfl)] at c24b2s_
                            obtain rfl := Option.some.inj H
                            go_enter Tryd.func19, Tryd.ntmps19
                            try go_wp2_with (first | ((with_reducible refine gate_dst (N := 1) rfl ?_); refine box_event ?hg (N := 1) ?hd (cs := #[.int .i64 a0_0, .int .i64 a0_1, .int .i64 a0_2, .int .i64 a0_3, .int .i64 a0_4, .int .i64 a0_5]) (t := 43) ?hr ?_; (case hd => rfl); (case hg => rfl); (case hr => first | (go_simp; done) | (go_simp; rfl)); intro gb217 hg w25 hbox hb; have n0_ := Aside0.mk (below_step (by repeat (first | (with_reducible first | exact HB.out | apply below_alloc | apply pw_below_drewN | apply below_drew1) | exact HB.out)) hb); have n1_ := Aside0.mk (hbox); have n2_ := Aside0.mk ((by rw [hg]; exact (below_size (by repeat (first | (with_reducible first | exact HB.out | apply below_alloc | apply pw_below_drewN | apply below_drew1) | exact HB.out))) : w.heap.size ≤ gb217)); have n3_ := Aside0.mk ((by rw [hg]; exact (below_size (by repeat (first | (with_reducible first | exact HB.out | apply below_alloc | apply pw_below_drewN | apply below_drew1) | exact HB.out))) : w.heap.size ≤ gb217)); clear HB; have HB := n0_; have BK217 := n1_; have GW217 := n2_; have GE217 := n3_; clear n0_ n1_ n2_ n3_; clear hb hbox hg; have hcz26_0 : w25.cell? ⟨gb217, 0, none⟩ = some (.int .i64 a0_0) := (blk_cell BK217.out 0).trans rfl; have hcz26_1 : w25.cell? ⟨gb217, 1, none⟩ = some (.int .i64 a0_1) := (blk_cell BK217.out 1).trans rfl; have hcz26_2 : w25.cell? ⟨gb217, 2, none⟩ = some (.int .i64 a0_2) := (blk_cell BK217.out 2).trans rfl; have hcz26_3 : w25.cell? ⟨gb217, 3, none⟩ = some (.int .i64 a0_3) := (blk_cell BK217.out 3).trans rfl; have hcz26_4 : w25.cell? ⟨gb217, 4, none⟩ = some (.int .i64 a0_4) := (blk_cell BK217.out 4).trans rfl; have hcz26_5 : w25.cell? ⟨gb217, 5, none⟩ = some (.int .i64 a0_5) := (blk_cell BK217.out 5).trans rfl; have hfz26_0 := blk_frozen BK217.out 0; have hfz26_1 := blk_frozen BK217.out 1; have hfz26_2 := blk_frozen BK217.out 2; have hfz26_3 := blk_frozen BK217.out 3; have hfz26_4 := blk_frozen BK217.out 4; have hfz26_5 := blk_frozen BK217.out 5) | ((with_reducible refine gate_callee (f := 25) rfl ?_); refine goesL_ (some 5) rfl rfl Tryd.func25 (by kernel_rfl) rfl #[.agg #[.int .i64 a0_0, .int .i64 a0_1, .int .i64 a0_2, .int .i64 a0_3, .int .i64 a0_4, .int .i64 a0_5]] rfl (by (try simp only [List.map_toArray, List.map_cons, List.map_nil]); first | done | rfl | (simp only [List.length_drop, List.length_take]; rfl)) ?_; (with_reducible refine (umbelref23_Good.calls a0_0 a0_1 a0_2 a0_3 a0_4 a0_5 true _ A2.out).mono ?_); rintro e w27 ⟨rfl, hb⟩; refine ⟨_, rfl, ?_⟩; have n0_ := Aside0.mk (blk_below (g := gb217) (o := .cells #[.int .i64 a0_0, .int .i64 a0_1, .int .i64 a0_2, .int .i64 a0_3, .int .i64 a0_4, .int .i64 a0_5] 43 (0, 0)) (by (with_reducible repeat (first | refine blk_drewN ?_ _ | refine blk_drew ?_ | refine blk_alloc ?_ _)); exact BK217.out) hb); have n1_ := Aside0.mk (below_step (by repeat (first | (with_reducible first | exact HB.out | apply below_alloc | apply pw_below_drewN | apply below_drew1 | refine below_set ?_ GE217.out) | exact HB.out)) hb); clear BK217; clear HB; have BK217 := n0_; have HB := n1_; clear n0_ n1_; (try clear hb); (try clear hb2); (try clear hk); (try clear hi)))
                            have n0_ := Aside0.mk (blk_drew BK217.out)
                            have n1_ := Aside0.mk (below_drew1 HB.out)
                            clear BK217
                            clear HB
                            have BK217 := n0_
                            have HB := n1_
                            clear n0_ n1_
                            refine start_ (n := 25) (S := fun w' => w'.cell? ⟨gb217, 0, none⟩ = some (.int .i64 a0_0) ∧ w'.cell? ⟨gb217, 1, none⟩ = some (.int .i64 a0_1) ∧ w'.cell? ⟨gb217, 2, none⟩ = some (.int .i64 a0_2) ∧ w'.cell? ⟨gb217, 3, none⟩ = some (.int .i64 a0_3) ∧ w'.cell? ⟨gb217, 4, none⟩ = some (.int .i64 a0_4) ∧ w'.cell? ⟨gb217, 5, none⟩ = some (.int .i64 a0_5)) (ds := []) #[false, false, false, false, false, false, false, false, false, false, false, false, false, false, false, false, false, false, false, false, false, false, false, false, false] (by kernel_rfl) rfl rfl ⟨(blk_cell BK217.out 0).trans rfl, (blk_cell BK217.out 1).trans rfl, (blk_cell BK217.out 2).trans rfl, (blk_cell BK217.out 3).trans rfl, (blk_cell BK217.out 4).trans rfl, (blk_cell BK217.out 5).trans rfl⟩ (fun hHeld => ?_); refine with_tabW umbelref23_Encode.tab3 umbelref23_Encode.bits3 (fun HT_ HW_ => ?_)
                            generalize w27.drew = w28 at BK217 HB hHeld ⊢
                            refine pure_ (i := 0) (N := some 7) (v := ?_) (a' := ?_) #[true, false, false, false, false, false, false, false, false, false, false, false, false, false, false, false, false, false, false, false, false, false, false, false, false] rfl rfl (any_of HT_.out (by kernel_rfl)) (fun _ _ _ h => h) (Or.inl ⟨by rfl, ?_⟩) ?_ ?_
                            rotate_left
                            · intro w'
                              go_simp
                              with_reducible rfl
                            rotate_left
                            · simp only [Act.put, List.setIfInBounds_toArray, List.set_cons_zero, List.set_cons_succ, i64_w, i32_w]
                              rfl
                            refine pure_ (i := 4) (N := some 11) (v := ?_) (a' := ?_) #[true, false, false, false, true, false, false, false, false, false, false, false, false, false, false, false, false, false, false, false, false, false, false, false, false] rfl rfl (any_of HT_.out (by kernel_rfl)) (fun _ _ _ h => h) (Or.inl ⟨by rfl, ?_⟩) ?_ ?_
                            rotate_left
                            · intro w'
                              go_simp
                              with_reducible rfl
                            rotate_left
                            · simp only [Act.put, List.setIfInBounds_toArray, List.set_cons_zero, List.set_cons_succ, i64_w, i32_w]
                              rfl
                            refine pure_ (i := 8) (N := some 15) (v := ?_) (a' := ?_) #[true, false, false, false, true, false, false, false, true, false, false, false, false, false, false, false, false, false, false, false, false, false, false, false, false] rfl rfl (any_of HT_.out (by kernel_rfl)) (fun _ _ _ h => h) (Or.inl ⟨by rfl, ?_⟩) ?_ ?_
                            rotate_left
                            · intro w'
                              go_simp
                              with_reducible rfl
                            rotate_left
                            · simp only [Act.put, List.setIfInBounds_toArray, List.set_cons_zero, List.set_cons_succ, i64_w, i32_w]
                              rfl
                            refine pure_ (i := 12) (N := some 19) (v := ?_) (a' := ?_) #[true, false, false, false, true, false, false, false, true, false, false, false, true, false, false, false, false, false, false, false, false, false, false, false, false] rfl rfl (any_of HT_.out (by kernel_rfl)) (fun _ _ _ h => h) (Or.inl ⟨by rfl, ?_⟩) ?_ ?_
                            rotate_left
                            · intro w'
                              go_simp
                              with_reducible rfl
                            rotate_left
                            · simp only [Act.put, List.setIfInBounds_toArray, List.set_cons_zero, List.set_cons_succ, i64_w, i32_w]
                              rfl
                            refine pure_ (i := 16) (N := some 23) (v := ?_) (a' := ?_) #[true, false, false, false, true, false, false, false, true, false, false, false, true, false, false, false, true, false, false, false, false, false, false, false, false] rfl rfl (any_of HT_.out (by kernel_rfl)) (fun _ _ _ h => h) (Or.inl ⟨by rfl, ?_⟩) ?_ ?_
                            rotate_left
                            · intro w'
                              go_simp
                              with_reducible rfl
                            rotate_left
                            · simp only [Act.put, List.setIfInBounds_toArray, List.set_cons_zero, List.set_cons_succ, i64_w, i32_w]
                              rfl
                            refine pure_ (i := 20) (N := some 27) (v := ?_) (a' := ?_) #[true, false, false, false, true, false, false, false, true, false, false, false, true, false, false, false, true, false, false, false, true, false, false, false, false] rfl rfl (any_of HT_.out (by kernel_rfl)) (fun _ _ _ h => h) (Or.inl ⟨by rfl, ?_⟩) ?_ ?_
                            rotate_left
                            · intro w'
                              go_simp
                              with_reducible rfl
                            rotate_left
                            · simp only [Act.put, List.setIfInBounds_toArray, List.set_cons_zero, List.set_cons_succ, i64_w, i32_w]
                              rfl
                            refine take_ (i := 1) (N := some 8) (v := ?_) (a' := ?_) #[true, true, false, false, true, false, false, false, true, false, false, false, true, false, false, false, true, false, false, false, true, false, false, false, false] rfl rfl (take_ofW HT_.out HW_.out (by kernel_rfl)) (fun _ _ _ h => h) (Or.inl ⟨by rfl, ?_⟩) hHeld ?_ ?_
                            rotate_left
                            · rintro w' ⟨s0, s1, s2, s3, s4, s5⟩
                              go_simp
                              with_reducible rfl
                            rotate_left
                            · simp only [Act.put, List.setIfInBounds_toArray, List.set_cons_zero, List.set_cons_succ, i64_w, i32_w]
                              rfl
                            refine take_ (i := 5) (N := some 12) (v := ?_) (a' := ?_) #[true, true, false, false, true, true, false, false, true, false, false, false, true, false, false, false, true, false, false, false, true, false, false, false, false] rfl rfl (take_ofW HT_.out HW_.out (by kernel_rfl)) (fun _ _ _ h => h) (Or.inl ⟨by rfl, ?_⟩) hHeld ?_ ?_
                            rotate_left
                            · rintro w' ⟨s0, s1, s2, s3, s4, s5⟩
                              go_simp
                              with_reducible rfl
                            rotate_left
                            · simp only [Act.put, List.setIfInBounds_toArray, List.set_cons_zero, List.set_cons_succ, i64_w, i32_w]
                              rfl
                            refine take_ (i := 9) (N := some 16) (v := ?_) (a' := ?_) #[true, true, false, false, true, true, false, false, true, true, false, false, true, false, false, false, true, false, false, false, true, false, false, false, false] rfl rfl (take_ofW HT_.out HW_.out (by kernel_rfl)) (fun _ _ _ h => h) (Or.inl ⟨by rfl, ?_⟩) hHeld ?_ ?_
                            rotate_left
                            · rintro w' ⟨s0, s1, s2, s3, s4, s5⟩
                              go_simp
                              with_reducible rfl
                            rotate_left
                            · simp only [Act.put, List.setIfInBounds_toArray, List.set_cons_zero, List.set_cons_succ, i64_w, i32_w]
                              rfl
                            refine take_ (i := 13) (N := some 20) (v := ?_) (a' := ?_) #[true, true, false, false, true, true, false, false, true, true, false, false, true, true, false, false, true, false, false, false, true, false, false, false, false] rfl rfl (take_ofW HT_.out HW_.out (by kernel_rfl)) (fun _ _ _ h => h) (Or.inl ⟨by rfl, ?_⟩) hHeld ?_ ?_
                            rotate_left
                            · rintro w' ⟨s0, s1, s2, s3, s4, s5⟩
                              go_simp
                              with_reducible rfl
                            rotate_left
                            · simp only [Act.put, List.setIfInBounds_toArray, List.set_cons_zero, List.set_cons_succ, i64_w, i32_w]
                              rfl
                            refine take_ (i := 17) (N := some 24) (v := ?_) (a' := ?_) #[true, true, false, false, true, true, false, false, true, true, false, false, true, true, false, false, true, true, false, false, true, false, false, false, false] rfl rfl (take_ofW HT_.out HW_.out (by kernel_rfl)) (fun _ _ _ h => h) (Or.inl ⟨by rfl, ?_⟩) hHeld ?_ ?_
                            rotate_left
                            · rintro w' ⟨s0, s1, s2, s3, s4, s5⟩
                              go_simp
                              with_reducible rfl
                            rotate_left
                            · simp only [Act.put, List.setIfInBounds_toArray, List.set_cons_zero, List.set_cons_succ, i64_w, i32_w]
                              rfl
                            refine take_ (i := 21) (N := some 28) (v := ?_) (a' := ?_) #[true, true, false, false, true, true, false, false, true, true, false, false, true, true, false, false, true, true, false, false, true, true, false, false, false] rfl rfl (take_ofW HT_.out HW_.out (by kernel_rfl)) (fun _ _ _ h => h) (Or.inl ⟨by rfl, ?_⟩) hHeld ?_ ?_
                            rotate_left
                            · rintro w' ⟨s0, s1, s2, s3, s4, s5⟩
                              go_simp
                              with_reducible rfl
                            rotate_left
                            · simp only [Act.put, List.setIfInBounds_toArray, List.set_cons_zero, List.set_cons_succ, i64_w, i32_w]
                              rfl
                            refine one_ (i := 2) (N := some 9) #[true, true, true, false, true, true, false, false, true, true, false, false, true, true, false, false, true, true, false, false, true, true, false, false, false] rfl rfl (one_of HT_.out (by kernel_rfl)) (by decide) (fun K hK => ?_)
                            refine goes_ Tryd.func38 (by kernel_rfl) rfl #[.int .i64 a0_0, .int .i64 4] (by rfl) rfl rfl (by (try simp only [List.map_toArray, List.map_cons, List.map_nil]); first | done | rfl | (simp only [List.length_drop, List.length_take]; rfl)) ?_
                            with_reducible refine (umbelref23_big.calls k a0_0 4 t219 _ A4.out).mono ?_
                            rintro e w29 ⟨rfl, hb⟩
                            refine ⟨_, rfl, ?_⟩
                            have n0_ := Aside0.mk (blk_below (g := gb217) (o := .cells #[.int .i64 a0_0, .int .i64 a0_1, .int .i64 a0_2, .int .i64 a0_3, .int .i64 a0_4, .int .i64 a0_5] 43 (0, 0)) (by (with_reducible repeat (first | refine blk_drewN ?_ _ | refine blk_drew ?_ | refine blk_alloc ?_ _)); exact BK217.out) hb)
                            have n1_ := Aside0.mk (below_step (by repeat (first | (with_reducible first | exact HB.out | apply below_alloc | apply pw_below_drewN | apply below_drew1 | refine below_set ?_ GE217.out) | exact HB.out)) hb)
                            clear BK217
                            clear HB
                            have BK217 := n0_
                            have HB := n1_
                            clear n0_ n1_
                            (try clear hb)
                            (try clear hb2)
                            (try clear hk)
                            (try clear hi)
                            refine hK.out _ _ ⟨(blk_cell BK217.out 0).trans rfl, (blk_cell BK217.out 1).trans rfl, (blk_cell BK217.out 2).trans rfl, (blk_cell BK217.out 3).trans rfl, (blk_cell BK217.out 4).trans rfl, (blk_cell BK217.out 5).trans rfl⟩ (fun hHeld => ?_)
                            clear hK K
                            refine norm_ (a' := ?_) ?_ ?_
                            rotate_left
                            · show Act.put _ (some 9) _ = _
                              simp only [Act.put, List.setIfInBounds_toArray, List.set_cons_zero, List.set_cons_succ, i64_w, i32_w]
                              rfl
                            refine pure_ (i := 3) (N := some 10) (v := ?_) (a' := ?_) #[true, true, true, true, true, true, false, false, true, true, false, false, true, true, false, false, true, true, false, false, true, true, false, false, false] rfl rfl (any_of HT_.out (by kernel_rfl)) (fun _ _ _ h => h) (Or.inl ⟨by rfl, ?_⟩) ?_ ?_
                            rotate_left
                            · intro w'
                              go_simp
                              with_reducible rfl
                            rotate_left
                            · simp only [Act.put, List.setIfInBounds_toArray, List.set_cons_zero, List.set_cons_succ, i64_w, i32_w]
                              rfl
                            refine one_ (i := 6) (N := some 13) #[true, true, true, true, true, true, true, false, true, true, false, false, true, true, false, false, true, true, false, false, true, true, false, false, false] rfl rfl (one_of HT_.out (by kernel_rfl)) (by decide) (fun K hK => ?_)
                            refine goes_ Tryd.func38 (by kernel_rfl) rfl #[.int .i64 a0_1, .int .i64 4] (by rfl) rfl rfl (by (try simp only [List.map_toArray, List.map_cons, List.map_nil]); first | done | rfl | (simp only [List.length_drop, List.length_take]; rfl)) ?_
                            with_reducible refine (umbelref23_big.calls k a0_1 4 t220 _ A6.out).mono ?_
                            rintro e w30 ⟨rfl, hb⟩
                            refine ⟨_, rfl, ?_⟩
                            have n0_ := Aside0.mk (blk_below (g := gb217) (o := .cells #[.int .i64 a0_0, .int .i64 a0_1, .int .i64 a0_2, .int .i64 a0_3, .int .i64 a0_4, .int .i64 a0_5] 43 (0, 0)) (by (with_reducible repeat (first | refine blk_drewN ?_ _ | refine blk_drew ?_ | refine blk_alloc ?_ _)); exact BK217.out) hb)
                            have n1_ := Aside0.mk (below_step (by repeat (first | (with_reducible first | exact HB.out | apply below_alloc | apply pw_below_drewN | apply below_drew1 | refine below_set ?_ GE217.out) | exact HB.out)) hb)
                            clear BK217
                            clear HB
                            have BK217 := n0_
                            have HB := n1_
                            clear n0_ n1_
                            (try clear hb)
                            (try clear hb2)
                            (try clear hk)
                            (try clear hi)
                            refine hK.out _ _ ⟨(blk_cell BK217.out 0).trans rfl, (blk_cell BK217.out 1).trans rfl, (blk_cell BK217.out 2).trans rfl, (blk_cell BK217.out 3).trans rfl, (blk_cell BK217.out 4).trans rfl, (blk_cell BK217.out 5).trans rfl⟩ (fun hHeld => ?_)
                            clear hK K
                            refine norm_ (a' := ?_) ?_ ?_
                            rotate_left
                            · show Act.put _ (some 13) _ = _
                              simp only [Act.put, List.setIfInBounds_toArray, List.set_cons_zero, List.set_cons_succ, i64_w, i32_w]
                              rfl
                            refine pure_ (i := 7) (N := some 14) (v := ?_) (a' := ?_) #[true, true, true, true, true, true, true, true, true, true, false, false, true, true, false, false, true, true, false, false, true, true, false, false, false] rfl rfl (any_of HT_.out (by kernel_rfl)) (fun _ _ _ h => h) (Or.inl ⟨by rfl, ?_⟩) ?_ ?_
                            rotate_left
                            · intro w'
                              go_simp
                              with_reducible rfl
                            rotate_left
                            · simp only [Act.put, List.setIfInBounds_toArray, List.set_cons_zero, List.set_cons_succ, i64_w, i32_w]
                              rfl
                            refine one_ (i := 10) (N := some 17) #[true, true, true, true, true, true, true, true, true, true, true, false, true, true, false, false, true, true, false, false, true, true, false, false, false] rfl rfl (one_of HT_.out (by kernel_rfl)) (by decide) (fun K hK => ?_)
                            refine goes_ Tryd.func38 (by kernel_rfl) rfl #[.int .i64 a0_2, .int .i64 2] (by rfl) rfl rfl (by (try simp only [List.map_toArray, List.map_cons, List.map_nil]); first | done | rfl | (simp only [List.length_drop, List.length_take]; rfl)) ?_
                            with_reducible refine (umbelref23_big.calls k a0_2 2 t221 _ A8.out).mono ?_
                            rintro e w31 ⟨rfl, hb⟩
                            refine ⟨_, rfl, ?_⟩
                            have n0_ := Aside0.mk (blk_below (g := gb217) (o := .cells #[.int .i64 a0_0, .int .i64 a0_1, .int .i64 a0_2, .int .i64 a0_3, .int .i64 a0_4, .int .i64 a0_5] 43 (0, 0)) (by (with_reducible repeat (first | refine blk_drewN ?_ _ | refine blk_drew ?_ | refine blk_alloc ?_ _)); exact BK217.out) hb)
                            have n1_ := Aside0.mk (below_step (by repeat (first | (with_reducible first | exact HB.out | apply below_alloc | apply pw_below_drewN | apply below_drew1 | refine below_set ?_ GE217.out) | exact HB.out)) hb)
                            clear BK217
                            clear HB
                            have BK217 := n0_
                            have HB := n1_
                            clear n0_ n1_
                            (try clear hb)
                            (try clear hb2)
                            (try clear hk)
                            (try clear hi)
                            refine hK.out _ _ ⟨(blk_cell BK217.out 0).trans rfl, (blk_cell BK217.out 1).trans rfl, (blk_cell BK217.out 2).trans rfl, (blk_cell BK217.out 3).trans rfl, (blk_cell BK217.out 4).trans rfl, (blk_cell BK217.out 5).trans rfl⟩ (fun hHeld => ?_)
                            clear hK K
                            refine norm_ (a' := ?_) ?_ ?_
                            rotate_left
                            · show Act.put _ (some 17) _ = _
                              simp only [Act.put, List.setIfInBounds_toArray, List.set_cons_zero, List.set_cons_succ, i64_w, i32_w]
                              rfl
                            refine pure_ (i := 11) (N := some 18) (v := ?_) (a' := ?_) #[true, true, true, true, true, true, true, true, true, true, true, true, true, true, false, false, true, true, false, false, true, true, false, false, false] rfl rfl (any_of HT_.out (by kernel_rfl)) (fun _ _ _ h => h) (Or.inl ⟨by rfl, ?_⟩) ?_ ?_
                            rotate_left
                            · intro w'
                              go_simp
                              with_reducible rfl
                            rotate_left
                            · simp only [Act.put, List.setIfInBounds_toArray, List.set_cons_zero, List.set_cons_succ, i64_w, i32_w]
                              rfl
                            refine one_ (i := 14) (N := some 21) #[true, true, true, true, true, true, true, true, true, true, true, true, true, true, true, false, true, true, false, false, true, true, false, false, false] rfl rfl (one_of HT_.out (by kernel_rfl)) (by decide) (fun K hK => ?_)
                            refine goes_ Tryd.func38 (by kernel_rfl) rfl #[.int .i64 a0_3, .int .i64 2] (by rfl) rfl rfl (by (try simp only [List.map_toArray, List.map_cons, List.map_nil]); first | done | rfl | (simp only [List.length_drop, List.length_take]; rfl)) ?_
                            with_reducible refine (umbelref23_big.calls k a0_3 2 t222 _ A10.out).mono ?_
                            rintro e w32 ⟨rfl, hb⟩
                            refine ⟨_, rfl, ?_⟩
                            have n0_ := Aside0.mk (blk_below (g := gb217) (o := .cells #[.int .i64 a0_0, .int .i64 a0_1, .int .i64 a0_2, .int .i64 a0_3, .int .i64 a0_4, .int .i64 a0_5] 43 (0, 0)) (by (with_reducible repeat (first | refine blk_drewN ?_ _ | refine blk_drew ?_ | refine blk_alloc ?_ _)); exact BK217.out) hb)
                            have n1_ := Aside0.mk (below_step (by repeat (first | (with_reducible first | exact HB.out | apply below_alloc | apply pw_below_drewN | apply below_drew1 | refine below_set ?_ GE217.out) | exact HB.out)) hb)
                            clear BK217
                            clear HB
                            have BK217 := n0_
                            have HB := n1_
                            clear n0_ n1_
                            (try clear hb)
                            (try clear hb2)
                            (try clear hk)
                            (try clear hi)
                            refine hK.out _ _ ⟨(blk_cell BK217.out 0).trans rfl, (blk_cell BK217.out 1).trans rfl, (blk_cell BK217.out 2).trans rfl, (blk_cell BK217.out 3).trans rfl, (blk_cell BK217.out 4).trans rfl, (blk_cell BK217.out 5).trans rfl⟩ (fun hHeld => ?_)
                            clear hK K
                            refine norm_ (a' := ?_) ?_ ?_
                            rotate_left
                            · show Act.put _ (some 21) _ = _
                              simp only [Act.put, List.setIfInBounds_toArray, List.set_cons_zero, List.set_cons_succ, i64_w, i32_w]
                              rfl
                            refine pure_ (i := 15) (N := some 22) (v := ?_) (a' := ?_) #[true, true, true, true, true, true, true, true, true, true, true, true, true, true, true, true, true, true, false, false, true, true, false, false, false] rfl rfl (any_of HT_.out (by kernel_rfl)) (fun _ _ _ h => h) (Or.inl ⟨by rfl, ?_⟩) ?_ ?_
                            rotate_left
                            · intro w'
                              go_simp
                              with_reducible rfl
                            rotate_left
                            · simp only [Act.put, List.setIfInBounds_toArray, List.set_cons_zero, List.set_cons_succ, i64_w, i32_w]
                              rfl
                            refine one_ (i := 18) (N := some 25) #[true, true, true, true, true, true, true, true, true, true, true, true, true, true, true, true, true, true, true, false, true, true, false, false, false] rfl rfl (one_of HT_.out (by kernel_rfl)) (by decide) (fun K hK => ?_)
                            refine goes_ Tryd.func38 (by kernel_rfl) rfl #[.int .i64 a0_4, .int .i64 2] (by rfl) rfl rfl (by (try simp only [List.map_toArray, List.map_cons, List.map_nil]); first | done | rfl | (simp only [List.length_drop, List.length_take]; rfl)) ?_
                            with_reducible refine (umbelref23_big.calls k a0_4 2 t223 _ A12.out).mono ?_
                            rintro e w33 ⟨rfl, hb⟩
                            refine ⟨_, rfl, ?_⟩
                            have n0_ := Aside0.mk (blk_below (g := gb217) (o := .cells #[.int .i64 a0_0, .int .i64 a0_1, .int .i64 a0_2, .int .i64 a0_3, .int .i64 a0_4, .int .i64 a0_5] 43 (0, 0)) (by (with_reducible repeat (first | refine blk_drewN ?_ _ | refine blk_drew ?_ | refine blk_alloc ?_ _)); exact BK217.out) hb)
                            have n1_ := Aside0.mk (below_step (by repeat (first | (with_reducible first | exact HB.out | apply below_alloc | apply pw_below_drewN | apply below_drew1 | refine below_set ?_ GE217.out) | exact HB.out)) hb)
                            clear BK217
                            clear HB
                            have BK217 := n0_
                            have HB := n1_
                            clear n0_ n1_
                            (try clear hb)
                            (try clear hb2)
                            (try clear hk)
                            (try clear hi)
                            refine hK.out _ _ ⟨(blk_cell BK217.out 0).trans rfl, (blk_cell BK217.out 1).trans rfl, (blk_cell BK217.out 2).trans rfl, (blk_cell BK217.out 3).trans rfl, (blk_cell BK217.out 4).trans rfl, (blk_cell BK217.out 5).trans rfl⟩ (fun hHeld => ?_)
                            clear hK K
                            refine norm_ (a' := ?_) ?_ ?_
                            rotate_left
                            · show Act.put _ (some 25) _ = _
                              simp only [Act.put, List.setIfInBounds_toArray, List.set_cons_zero, List.set_cons_succ, i64_w, i32_w]
                              rfl
                            refine pure_ (i := 19) (N := some 26) (v := ?_) (a' := ?_) #[true, true, true, true, true, true, true, true, true, true, true, true, true, true, true, true, true, true, true, true, true, true, false, false, false] rfl rfl (any_of HT_.out (by kernel_rfl)) (fun _ _ _ h => h) (Or.inl ⟨by rfl, ?_⟩) ?_ ?_
                            rotate_left
                            · intro w'
                              go_simp
                              with_reducible rfl
                            rotate_left
                            · simp only [Act.put, List.setIfInBounds_toArray, List.set_cons_zero, List.set_cons_succ, i64_w, i32_w]
                              rfl
                            refine one_ (i := 22) (N := some 29) #[true, true, true, true, true, true, true, true, true, true, true, true, true, true, true, true, true, true, true, true, true, true, true, false, false] rfl rfl (one_of HT_.out (by kernel_rfl)) (by decide) (fun K hK => ?_)
                            refine goes_ Tryd.func38 (by kernel_rfl) rfl #[.int .i64 a0_5, .int .i64 1] (by rfl) rfl rfl (by (try simp only [List.map_toArray, List.map_cons, List.map_nil]); first | done | rfl | (simp only [List.length_drop, List.length_take]; rfl)) ?_
                            with_reducible refine (umbelref23_big.calls k a0_5 1 t224 _ A14.out).mono ?_
                            rintro e w34 ⟨rfl, hb⟩
                            refine ⟨_, rfl, ?_⟩
                            have n0_ := Aside0.mk (blk_below (g := gb217) (o := .cells #[.int .i64 a0_0, .int .i64 a0_1, .int .i64 a0_2, .int .i64 a0_3, .int .i64 a0_4, .int .i64 a0_5] 43 (0, 0)) (by (with_reducible repeat (first | refine blk_drewN ?_ _ | refine blk_drew ?_ | refine blk_alloc ?_ _)); exact BK217.out) hb)
                            have n1_ := Aside0.mk (below_step (by repeat (first | (with_reducible first | exact HB.out | apply below_alloc | apply pw_below_drewN | apply below_drew1 | refine below_set ?_ GE217.out) | exact HB.out)) hb)
                            clear BK217
                            clear HB
                            have BK217 := n0_
                            have HB := n1_
                            clear n0_ n1_
                            (try clear hb)
                            (try clear hb2)
                            (try clear hk)
                            (try clear hi)
                            refine hK.out _ _ ⟨(blk_cell BK217.out 0).trans rfl, (blk_cell BK217.out 1).trans rfl, (blk_cell BK217.out 2).trans rfl, (blk_cell BK217.out 3).trans rfl, (blk_cell BK217.out 4).trans rfl, (blk_cell BK217.out 5).trans rfl⟩ (fun hHeld => ?_)
                            clear hK K
                            refine norm_ (a' := ?_) ?_ ?_
                            rotate_left
                            · show Act.put _ (some 29) _ = _
                              simp only [Act.put, List.setIfInBounds_toArray, List.set_cons_zero, List.set_cons_succ, i64_w, i32_w]
                              rfl
                            refine pure_ (i := 23) (N := some 30) (v := ?_) (a' := ?_) #[true, true, true, true, true, true, true, true, true, true, true, true, true, true, true, true, true, true, true, true, true, true, true, true, false] rfl rfl (any_of HT_.out (by kernel_rfl)) (fun _ _ _ h => h) (Or.inl ⟨by rfl, ?_⟩) ?_ ?_
                            rotate_left
                            · intro w'
                              go_simp
                              with_reducible rfl
                            rotate_left
                            · simp only [Act.put, List.setIfInBounds_toArray, List.set_cons_zero, List.set_cons_succ, i64_w, i32_w]
                              rfl
                            refine pure_ (i := 24) (N := some 3) (v := ?_) (a' := ?_) #[true, true, true, true, true, true, true, true, true, true, true, true, true, true, true, true, true, true, true, true, true, true, true, true, true] rfl rfl (any_of HT_.out (by kernel_rfl)) (fun _ _ _ h => h) (Or.inl ⟨by rfl, ?_⟩) ?_ ?_
                            rotate_left
                            · intro w'
                              go_simp
                              with_reducible rfl
                            rotate_left
                            · simp only [Act.put, List.setIfInBounds_toArray, List.set_cons_zero, List.set_cons_succ, i64_w, i32_w]
                              rfl
                            refine done_ (done_of HT_.out (by kernel_rfl)) ?_
                            try subst hji16s
                            try go_wp2_with (first | ((with_reducible refine gate_dst (N := 35) rfl ?_); refine Kd.R_make (Kd.int .u8) _ 5 rfl (N := 35) rfl 39 _ _ rfl _ rfl rfl Tryd.underlying39 (.int .u8 0) 1 info5 rfl (by decide) (by omega) 0 (ok := fun _ => True) (okp := fun _ => True) rfl (fun _ hk => hk) trivial (of_decide_eq_true (by first | (with_reducible assumption) | assumption)) (Nat.le_trans (Nat.mul_le_mul_right _ (of_decide_eq_true (by first | (with_reducible assumption) | assumption) : (wrap64 (60 - ((((((4 + (t219.size : Int)) + (t220.size : Int)) + (t221.size : Int)) + (t222.size : Int)) + (t223.size : Int)) + (t224.size : Int)))).toNat ≤ 281474976710656)) (by omega)) (Below.refl _ _) (Nat.le_refl _) ?_; intro v226 w35 ho36 hb hg_ hnew_; clear hg_ hnew_; (first | rw [← Ny225.out] at ho36 | (simp only [Int.reduceToNat] at ho36; rw [← Ny225.out] at ho36)); have n0_ := Aside0.mk (Kd.R_lower ho36 (below_size (by repeat (first | (with_reducible first | exact HB.out | apply below_alloc | apply pw_below_drewN | apply below_drew1 | refine below_set ?_ GE217.out) | exact HB.out)))); have n1_ := Aside0.mk (blk_below (g := gb217) (o := .cells #[.int .i64 a0_0, .int .i64 a0_1, .int .i64 a0_2, .int .i64 a0_3, .int .i64 a0_4, .int .i64 a0_5] 43 (0, 0)) (by (with_reducible repeat (first | refine blk_drewN ?_ _ | refine blk_drew ?_ | refine blk_alloc ?_ _)); exact BK217.out) hb); have n2_ := Aside0.mk (below_step (by repeat (first | (with_reducible first | exact HB.out | apply below_alloc | apply pw_below_drewN | apply below_drew1 | refine below_set ?_ GE217.out) | exact HB.out)) hb); clear BK217; clear HB; have HO227 := n0_; have BK217 := n1_; have HB := n2_; clear n0_ n1_ n2_; clear hb ho36; have hcv37 := own_string (P := Tryd.prog) Tryd.underlying39 Tryd.underlying5 Tryd.underlying9 (Kd.own_of_R HO227.out)))
                            have n0_ := Aside0.mk (Kd.R_drew HO227.out)
                            have n1_ := Aside0.mk (blk_drew BK217.out)
                            have n2_ := Aside0.mk (below_drew1 HB.out)
                            clear HO227
                            clear BK217
                            clear HB
                            have HO227 := n0_
                            have BK217 := n1_
                            have HB := n2_
                            clear n0_ n1_ n2_
                            refine start_ (n := 9) (S := fun w' => True) (ds := []) #[false, false, false, false, false, false, false, false, false] (by kernel_rfl) rfl rfl trivial (fun hHeld => ?_); refine with_tabW umbelref23_Encode.tab5 umbelref23_Encode.bits5 (fun HT_ HW_ => ?_)
                            generalize w35.drew = w38 at HO227 BK217 HB hHeld ⊢
                            refine pure_ (i := 0) (N := some 38) (v := ?_) (a' := ?_) #[true, false, false, false, false, false, false, false, false] rfl rfl (any_of HT_.out (by kernel_rfl)) (fun _ _ _ h => h) (Or.inl ⟨by rfl, ?_⟩) ?_ ?_
                            rotate_left
                            · intro w'
                              go_simp
                              with_reducible rfl
                            rotate_left
                            · simp only [Act.put, List.setIfInBounds_toArray, List.set_cons_zero, List.set_cons_succ, i64_w, i32_w]
                              rfl
                            refine pure_ (i := 1) (N := some 39) (v := ?_) (a' := ?_) #[true, true, false, false, false, false, false, false, false] rfl rfl (any_of HT_.out (by kernel_rfl)) (fun _ _ _ h => h) (Or.inl ⟨by rfl, ?_⟩) ?_ ?_
                            rotate_left
                            · intro w'
                              go_simp
                              with_reducible rfl
                            rotate_left
                            · simp only [Act.put, List.setIfInBounds_toArray, List.set_cons_zero, List.set_cons_succ, i64_w, i32_w]
                              rfl
                            refine join_ (σ := Value) 2 #[true, true, true, true, true, true, true, false, false] (fun s_ => [(40, .int .u32 t228), (41, .string t229), (43, s_), (44, .string (strOfNums y230)), (42, .string (((((((((⟨#[85, 77, 66, 49]⟩ : ByteArray) ++ t219) ++ t220) ++ t221) ++ t222) ++ t223) ++ t224) ++ (strOfNums y225)) ++ t229))]) (fun s_ w' => (Kd.R (Kd.int .u8) 5 w' w.heap.size (fun k_ => some k_ ≠ (s_ : Value).ownBlock) v226 y225) ∧ (Kd.R (Kd.int .u8) 5 w' w.heap.size (fun k_ => some k_ ≠ (v226 : Value).ownBlock) s_ y230) ∧ (w'.heap[gb217]? = some (.cells #[.int .i64 a0_0, .int .i64 a0_1, .int .i64 a0_2, .int .i64 a0_3, .int .i64 a0_4, .int .i64 a0_5] 43 (0, 0))) ∧ (Below w.heap.size w w')) ?_ ?_
                            rotate_left
                            · intro hJ2_3_5_6
                              refine join_ (σ := Value) 3 #[true, true, true, true, true, true, false, false, false] (fun s_ => [(40, .int .u32 t228), (41, .string t229), (43, s_), (42, .string (((((((((⟨#[85, 77, 66, 49]⟩ : ByteArray) ++ t219) ++ t220) ++ t221) ++ t222) ++ t223) ++ t224) ++ (strOfNums y225)) ++ t229))]) (fun s_ w' => (Kd.R (Kd.int .u8) 5 w' w.heap.size (fun k_ => some k_ ≠ (s_ : Value).ownBlock) v226 y225) ∧ (Kd.R (Kd.int .u8) 5 w' w.heap.size (fun k_ => some k_ ≠ (v226 : Value).ownBlock) s_ y230) ∧ (w'.heap[gb217]? = some (.cells #[.int .i64 a0_0, .int .i64 a0_1, .int .i64 a0_2, .int .i64 a0_3, .int .i64 a0_4, .int .i64 a0_5] 43 (0, 0))) ∧ (Below w.heap.size w w')) ?_ ?_
                              rotate_left
                              · intro hJ2_3_5
                                refine join_ (σ := Value) 4 #[true, true, true, false, false, true, true, false, false] (fun s_ => [(40, .int .u32 t228), (43, s_), (44, .string (strOfNums y230))]) (fun s_ w' => (Kd.R (Kd.int .u8) 5 w' w.heap.size (fun k_ => some k_ ≠ (s_ : Value).ownBlock) v226 y225) ∧ (Kd.R (Kd.int .u8) 5 w' w.heap.size (fun k_ => some k_ ≠ (v226 : Value).ownBlock) s_ y230) ∧ (w'.heap[gb217]? = some (.cells #[.int .i64 a0_0, .int .i64 a0_1, .int .i64 a0_2, .int .i64 a0_3, .int .i64 a0_4, .int .i64 a0_5] 43 (0, 0))) ∧ (Below w.heap.size w w')) ?_ ?_
                                rotate_left
                                · intro hJ2_5_6
                                  refine join_ (σ := Unit) 4 #[true, true, true, true, true, false, false, false, false] (fun s_ => [(40, .int .u32 t228), (41, .string t229), (42, .string (((((((((⟨#[85, 77, 66, 49]⟩ : ByteArray) ++ t219) ++ t220) ++ t221) ++ t222) ++ t223) ++ t224) ++ (strOfNums y225)) ++ t229))]) (fun s_ w' => (Kd.R (Kd.int .u8) 5 w' w.heap.size (fun _ => True) v226 y225) ∧ (w'.heap[gb217]? = some (.cells #[.int .i64 a0_0, .int .i64 a0_1, .int .i64 a0_2, .int .i64 a0_3, .int .i64 a0_4, .int .i64 a0_5] 43 (0, 0))) ∧ (Below w.heap.size w w')) ?_ ?_
                                  rotate_left
                                  · intro hJ2_3
                                    refine join_ (σ := Value) 5 #[true, true, true, false, false, true, false, false, false] (fun s_ => [(40, .int .u32 t228), (43, s_)]) (fun s_ w' => (Kd.R (Kd.int .u8) 5 w' w.heap.size (fun k_ => some k_ ≠ (s_ : Value).ownBlock) v226 y225) ∧ (Kd.R (Kd.int .u8) 5 w' w.heap.size (fun k_ => some k_ ≠ (v226 : Value).ownBlock) s_ y230) ∧ (w'.heap[gb217]? = some (.cells #[.int .i64 a0_0, .int .i64 a0_1, .int .i64 a0_2, .int .i64 a0_3, .int .i64 a0_4, .int .i64 a0_5] 43 (0, 0))) ∧ (Below w.heap.size w w')) ?_ ?_
                                    rotate_left
                                    · intro hJ2_5
                                      refine join_ (σ := Value) 5 #[true, true, false, false, false, true, true, false, false] (fun s_ => [(43, s_), (44, .string (strOfNums y230))]) (fun s_ w' => (Kd.R (Kd.int .u8) 5 w' w.heap.size (fun k_ => some k_ ≠ (s_ : Value).ownBlock) v226 y225) ∧ (Kd.R (Kd.int .u8) 5 w' w.heap.size (fun k_ => some k_ ≠ (v226 : Value).ownBlock) s_ y230) ∧ (w'.heap[gb217]? = some (.cells #[.int .i64 a0_0, .int .i64 a0_1, .int .i64 a0_2, .int .i64 a0_3, .int .i64 a0_4, .int .i64 a0_5] 43 (0, 0))) ∧ (Below w.heap.size w w')) ?_ ?_
                                      rotate_left
                                      · intro hJ5_6
                                        refine join_ (σ := Unit) 6 #[true, true, true, false, false, false, false, false, false] (fun s_ => [(40, .int .u32 t228)]) (fun s_ w' => (Kd.R (Kd.int .u8) 5 w' w.heap.size (fun _ => True) v226 y225) ∧ (w'.heap[gb217]? = some (.cells #[.int .i64 a0_0, .int .i64 a0_1, .int .i64 a0_2, .int .i64 a0_3, .int .i64 a0_4, .int .i64 a0_5] 43 (0, 0))) ∧ (Below w.heap.size w w')) ?_ ?_
                                        rotate_left
                                        · intro hJ2
                                          refine join_ (σ := Value) 6 #[true, true, false, false, false, true, false, false, false] (fun s_ => [(43, s_)]) (fun s_ w' => (Kd.R (Kd.int .u8) 5 w' w.heap.size (fun k_ => some k_ ≠ (s_ : Value).ownBlock) v226 y225) ∧ (Kd.R (Kd.int .u8) 5 w' w.heap.size (fun k_ => some k_ ≠ (v226 : Value).ownBlock) s_ y230) ∧ (w'.heap[gb217]? = some (.cells #[.int .i64 a0_0, .int .i64 a0_1, .int .i64 a0_2, .int .i64 a0_3, .int .i64 a0_4, .int .i64 a0_5] 43 (0, 0))) ∧ (Below w.heap.size w w')) ?_ ?_
                                          rotate_left
                                          · intro hJ5
                                            refine two_ (i := 2) (j := 5) (Ni := some 40) (Nj := some 43) #[true, true, true, false, false, false, false, false, false] #[true, true, false, false, false, true, false, false, false] rfl rfl rfl rfl (two_of HT_.out (by kernel_rfl)) (by decide) (by decide) (fun K hK => ?_) (fun K hK => ?_)
                                            · skip
                                              refine goes_ Tryd.func33 (by kernel_rfl) rfl #[.string ((((((((⟨#[85, 77, 66, 49]⟩ : ByteArray) ++ t219) ++ t220) ++ t221) ++ t222) ++ t223) ++ t224) ++ (strOfNums y225))] (by rfl) rfl rfl (by (try simp only [List.map_toArray, List.map_cons, List.map_nil]); first | done | rfl | (simp only [List.length_drop, List.length_take]; rfl)) ?_
                                              with_reducible refine (umbelref03_Of.calls ((((((((⟨#[85, 77, 66, 49]⟩ : ByteArray) ++ t219) ++ t220) ++ t221) ++ t222) ++ t223) ++ t224) ++ (strOfNums y225)) t228 _ A20.out).mono ?_
                                              rintro e w39 ⟨rfl, hb⟩
                                              refine ⟨_, rfl, ?_⟩
                                              have n0_ := Aside0.mk (Kd.R_below (by (with_reducible repeat (first | apply Kd.R_alloc | apply Kd.R_drewN | apply Kd.R_drew)); exact HO227.out) hb)
                                              have n1_ := Aside0.mk (blk_below (g := gb217) (o := .cells #[.int .i64 a0_0, .int .i64 a0_1, .int .i64 a0_2, .int .i64 a0_3, .int .i64 a0_4, .int .i64 a0_5] 43 (0, 0)) (by (with_reducible repeat (first | refine blk_drewN ?_ _ | refine blk_drew ?_ | refine blk_alloc ?_ _)); exact BK217.out) hb)
                                              have n2_ := Aside0.mk (below_step (by repeat (first | (with_reducible first | exact HB.out | apply below_alloc | apply pw_below_drewN | apply below_drew1 | refine below_set ?_ GE217.out) | exact HB.out)) hb)
                                              clear HO227
                                              clear BK217
                                              clear HB
                                              have HO227 := n0_
                                              have BK217 := n1_
                                              have HB := n2_
                                              clear n0_ n1_ n2_
                                              (try clear hb)
                                              (try clear hb2)
                                              (try clear hk)
                                              (try clear hi)
                                              refine hK.out _ _ trivial (fun hHeld => ?_)
                                              clear hK K
                                              refine norm_ (a' := ?_) ?_ ?_
                                              rotate_left
                                              · show Act.put _ (some 40) _ = _
                                                simp only [Act.put, List.setIfInBounds_toArray, List.set_cons_zero, List.set_cons_succ, i64_w, i32_w]
                                                rfl
                                              exact norm_ (by first | (simp only [putAll, Act.put, List.setIfInBounds_toArray, List.set_cons_zero, List.set_cons_succ]; done) | (simp only [putAll, Act.put, List.setIfInBounds_toArray, List.set_cons_zero, List.set_cons_succ]; rfl)) (hJ2 () _ ⟨(by (with_reducible repeat (first | apply Kd.R_alloc | apply Kd.R_drewN | apply Kd.R_drew)); exact HO227.out), (by (with_reducible repeat (first | refine blk_drewN ?_ _ | refine blk_drew ?_ | refine blk_alloc ?_ _)); exact BK217.out), (by repeat (first | (with_reducible first | exact HB.out | apply below_alloc | apply pw_below_drewN | apply below_drew1 | refine below_set ?_ GE217.out) | exact HB.out))⟩)
                                            · skip
                                              refine Kd.R_make_step (Kd.int .u8) _ 5 (by rfl) (N := 43) rfl 39 _ _ rfl 192 rfl rfl Tryd.underlying39 (.int .u8 0) 1 info5 rfl (by decide) (by omega) 0 (ok := fun _ => True) (okp := fun _ => True) rfl (fun _ hk => hk) trivial (by omega) (by omega) (Below.refl _ _) (Nat.le_refl _) ?_
                                              intro v231 w39 ho40 hb hg_ hnew_
                                              clear hg_ hnew_
                                              (first | rw [← Ny230.out] at ho40 | (simp only [Int.reduceToNat] at ho40; rw [← Ny230.out] at ho40))
                                              have n0_ := Aside0.mk (Kd.R_elder' (by (with_reducible repeat (first | apply Kd.R_alloc | apply Kd.R_drewN | apply Kd.R_drew)); exact HO227.out) (Kd.R_base ho40) hb)
                                              have n1_ := Aside0.mk (Kd.R_lower (Kd.R_new' ho40 (Kd.R_lt (by (with_reducible repeat (first | apply Kd.R_alloc | apply Kd.R_drewN | apply Kd.R_drew)); exact HO227.out))) (below_size (by repeat (first | (with_reducible first | exact HB.out | apply below_alloc | apply pw_below_drewN | apply below_drew1 | refine below_set ?_ GE217.out) | exact HB.out))))
                                              have n2_ := Aside0.mk (blk_below (g := gb217) (o := .cells #[.int .i64 a0_0, .int .i64 a0_1, .int .i64 a0_2, .int .i64 a0_3, .int .i64 a0_4, .int .i64 a0_5] 43 (0, 0)) (by (with_reducible repeat (first | refine blk_drewN ?_ _ | refine blk_drew ?_ | refine blk_alloc ?_ _)); exact BK217.out) hb)
                                              have n3_ := Aside0.mk (below_step (by repeat (first | (with_reducible first | exact HB.out | apply below_alloc | apply pw_below_drewN | apply below_drew1 | refine below_set ?_ GE217.out) | exact HB.out)) hb)
                                              clear HO227
                                              clear BK217
                                              clear HB
                                              have HO227 := n0_
                                              have HO232 := n1_
                                              have BK217 := n2_
                                              have HB := n3_
                                              clear n0_ n1_ n2_ n3_
                                              clear hb ho40
                                              refine hK.out _ _ trivial (fun hHeld => ?_)
                                              clear hK K
                                              refine norm_ (a' := ?_) ?_ ?_
                                              rotate_left
                                              · show Act.put _ (some 43) _ = _
                                                simp only [Act.put, List.setIfInBounds_toArray, List.set_cons_zero, List.set_cons_succ, i64_w, i32_w]
                                                rfl
                                              exact norm_ (by first | (simp only [putAll, Act.put, List.setIfInBounds_toArray, List.set_cons_zero, List.set_cons_succ]; done) | (simp only [putAll, Act.put, List.setIfInBounds_toArray, List.set_cons_zero, List.set_cons_succ]; rfl)) (hJ5 (v231) _ ⟨(by (with_reducible repeat (first | apply Kd.R_alloc | apply Kd.R_drewN | apply Kd.R_drew)); exact Kd.R_mono HO227.out (fun _ hk => hk.2)), (by (with_reducible repeat (first | apply Kd.R_alloc | apply Kd.R_drewN | apply Kd.R_drew)); exact Kd.R_mono HO232.out (fun _ hk => hk.2)), (by (with_reducible repeat (first | refine blk_drewN ?_ _ | refine blk_drew ?_ | refine blk_alloc ?_ _)); exact BK217.out), (by repeat (first | (with_reducible first | exact HB.out | apply below_alloc | apply pw_below_drewN | apply below_drew1 | refine below_set ?_ GE217.out) | exact HB.out))⟩)
                                          · skip
                                            rintro v231 w41 ⟨h0_, h1_, h2_, h3_⟩
                                            have n0_ : Aside0 (Kd.R (Kd.int .u8) 5 w41 w.heap.size (fun k_ => some k_ ≠ (v231 : Value).ownBlock) v226 y225) := ⟨h0_⟩
                                            have n1_ : Aside0 (Kd.R (Kd.int .u8) 5 w41 w.heap.size (fun k_ => some k_ ≠ (v226 : Value).ownBlock) v231 y230) := ⟨h1_⟩
                                            have n2_ : Aside0 (w41.heap[gb217]? = some (.cells #[.int .i64 a0_0, .int .i64 a0_1, .int .i64 a0_2, .int .i64 a0_3, .int .i64 a0_4, .int .i64 a0_5] 43 (0, 0))) := ⟨h2_⟩
                                            have n3_ : Aside0 (Below w.heap.size w w41) := ⟨h3_⟩
                                            clear HO227
                                            clear BK217
                                            clear HB
                                            clear h0_ h1_ h2_ h3_
                                            have HO227 := n0_
                                            have HO232 := n1_
                                            have BK217 := n2_
                                            have HB := n3_
                                            clear n0_ n1_ n2_ n3_
                                            have hHeld := trivial
                                            refine norm_ (a' := ?_) ?_ ?_
                                            rotate_left
                                            · simp only [putAll, Act.put, List.setIfInBounds_toArray, List.set_cons_zero, List.set_cons_succ]
                                              rfl
                                            refine two_ (i := 2) (j := 6) (Ni := some 40) (Nj := some 44) #[true, true, true, false, false, true, false, false, false] #[true, true, false, false, false, true, true, false, false] rfl rfl rfl rfl (two_of HT_.out (by kernel_rfl)) (by decide) (by decide) (fun K hK => ?_) (fun K hK => ?_)
                                            · skip
                                              refine goes_ Tryd.func33 (by kernel_rfl) rfl #[.string ((((((((⟨#[85, 77, 66, 49]⟩ : ByteArray) ++ t219) ++ t220) ++ t221) ++ t222) ++ t223) ++ t224) ++ (strOfNums y225))] (by rfl) rfl rfl (by (try simp only [List.map_toArray, List.map_cons, List.map_nil]); first | done | rfl | (simp only [List.length_drop, List.length_take]; rfl)) ?_
                                              with_reducible refine (umbelref03_Of.calls ((((((((⟨#[85, 77, 66, 49]⟩ : ByteArray) ++ t219) ++ t220) ++ t221) ++ t222) ++ t223) ++ t224) ++ (strOfNums y225)) t228 _ A20.out).mono ?_
                                              rintro e w42 ⟨rfl, hb⟩
                                              refine ⟨_, rfl, ?_⟩
                                              have n0_ := Aside0.mk (Kd.R_below (by (with_reducible repeat (first | apply Kd.R_alloc | apply Kd.R_drewN | apply Kd.R_drew)); exact HO227.out) hb)
                                              have n1_ := Aside0.mk (Kd.R_below (by (with_reducible repeat (first | apply Kd.R_alloc | apply Kd.R_drewN | apply Kd.R_drew)); exact HO232.out) hb)
                                              have n2_ := Aside0.mk (blk_below (g := gb217) (o := .cells #[.int .i64 a0_0, .int .i64 a0_1, .int .i64 a0_2, .int .i64 a0_3, .int .i64 a0_4, .int .i64 a0_5] 43 (0, 0)) (by (with_reducible repeat (first | refine blk_drewN ?_ _ | refine blk_drew ?_ | refine blk_alloc ?_ _)); exact BK217.out) hb)
                                              have n3_ := Aside0.mk (below_step (by repeat (first | (with_reducible first | exact HB.out | apply below_alloc | apply pw_below_drewN | apply below_drew1 | refine below_set ?_ GE217.out) | exact HB.out)) hb)
                                              clear HO227
                                              clear HO232
                                              clear BK217
                                              clear HB
                                              have HO227 := n0_
                                              have HO232 := n1_
                                              have BK217 := n2_
                                              have HB := n3_
                                              clear n0_ n1_ n2_ n3_
                                              (try clear hb)
                                              (try clear hb2)
                                              (try clear hk)
                                              (try clear hi)
                                              refine hK.out _ _ trivial (fun hHeld => ?_)
                                              clear hK K
                                              refine norm_ (a' := ?_) ?_ ?_
                                              rotate_left
                                              · show Act.put _ (some 40) _ = _
                                                simp only [Act.put, List.setIfInBounds_toArray, List.set_cons_zero, List.set_cons_succ, i64_w, i32_w]
                                                rfl
                                              exact norm_ (by first | (simp only [putAll, Act.put, List.setIfInBounds_toArray, List.set_cons_zero, List.set_cons_succ]; done) | (simp only [putAll, Act.put, List.setIfInBounds_toArray, List.set_cons_zero, List.set_cons_succ]; rfl)) (hJ2_5 (v231) _ ⟨(by (with_reducible repeat (first | apply Kd.R_alloc | apply Kd.R_drewN | apply Kd.R_drew)); exact HO227.out), (by (with_reducible repeat (first | apply Kd.R_alloc | apply Kd.R_drewN | apply Kd.R_drew)); exact HO232.out), (by (with_reducible repeat (first | refine blk_drewN ?_ _ | refine blk_drew ?_ | refine blk_alloc ?_ _)); exact BK217.out), (by repeat (first | (with_reducible first | exact HB.out | apply below_alloc | apply pw_below_drewN | apply below_drew1 | refine below_set ?_ GE217.out) | exact HB.out))⟩)
                                            · skip
                                              have hcv42 := own_string (P := Tryd.prog) Tryd.underlying39 Tryd.underlying5 Tryd.underlying9 (Kd.own_of_R HO232.out)
                                              refine value_ (w1 := ?_) (v := ?_) (by rfl) rfl ?_ ?_
                                              rotate_left 2
                                              · go_simp
                                                constructor
                                                · rfl
                                                · rfl
                                              clear hcv42
                                              refine hK.out _ _ trivial (fun hHeld => ?_)
                                              clear hK K
                                              refine norm_ (a' := ?_) ?_ ?_
                                              rotate_left
                                              · show Act.put _ (some 44) _ = _
                                                simp only [Act.put, List.setIfInBounds_toArray, List.set_cons_zero, List.set_cons_succ, i64_w, i32_w]
                                                rfl
                                              exact norm_ (by first | (simp only [putAll, Act.put, List.setIfInBounds_toArray, List.set_cons_zero, List.set_cons_succ]; done) | (simp only [putAll, Act.put, List.setIfInBounds_toArray, List.set_cons_zero, List.set_cons_succ]; rfl)) (hJ5_6 (v231) _ ⟨(by (with_reducible repeat (first | apply Kd.R_alloc | apply Kd.R_drewN | apply Kd.R_drew)); exact HO227.out), (by (with_reducible repeat (first | apply Kd.R_alloc | apply Kd.R_drewN | apply Kd.R_drew)); exact HO232.out), (by (with_reducible repeat (first | refine blk_drewN ?_ _ | refine blk_drew ?_ | refine blk_alloc ?_ _)); exact BK217.out), (by repeat (first | (with_reducible first | exact HB.out | apply below_alloc | apply pw_below_drewN | apply below_drew1 | refine below_set ?_ GE217.out) | exact HB.out))⟩)
                                        · skip
                                          rintro _ w40 ⟨h0_, h1_, h2_⟩
                                          have n0_ : Aside0 (Kd.R (Kd.int .u8) 5 w40 w.heap.size (fun _ => True) v226 y225) := ⟨h0_⟩
                                          have n1_ : Aside0 (w40.heap[gb217]? = some (.cells #[.int .i64 a0_0, .int .i64 a0_1, .int .i64 a0_2, .int .i64 a0_3, .int .i64 a0_4, .int .i64 a0_5] 43 (0, 0))) := ⟨h1_⟩
                                          have n2_ : Aside0 (Below w.heap.size w w40) := ⟨h2_⟩
                                          clear HO227
                                          clear BK217
                                          clear HB
                                          clear h0_ h1_ h2_
                                          have HO227 := n0_
                                          have BK217 := n1_
                                          have HB := n2_
                                          clear n0_ n1_ n2_
                                          have hHeld := trivial
                                          refine norm_ (a' := ?_) ?_ ?_
                                          rotate_left
                                          · simp only [putAll, Act.put, List.setIfInBounds_toArray, List.set_cons_zero, List.set_cons_succ]
                                            rfl
                                          refine two_ (i := 3) (j := 5) (Ni := some 41) (Nj := some 43) #[true, true, true, true, false, false, false, false, false] #[true, true, true, false, false, true, false, false, false] rfl rfl rfl rfl (two_of HT_.out (by kernel_rfl)) (by decide) (by decide) (fun K hK => ?_) (fun K hK => ?_)
                                          · skip
                                            refine goes_ Tryd.func32 (by kernel_rfl) rfl #[.int .u32 t228] (by rfl) rfl rfl (by (try simp only [List.map_toArray, List.map_cons, List.map_nil]); first | done | rfl | (simp only [List.length_drop, List.length_take]; rfl)) ?_
                                            with_reducible refine (umbelref03_Put.calls t228 t229 _ A21.out).mono ?_
                                            rintro e w41 ⟨rfl, hb⟩
                                            refine ⟨_, rfl, ?_⟩
                                            have n0_ := Aside0.mk (Kd.R_below (by (with_reducible repeat (first | apply Kd.R_alloc | apply Kd.R_drewN | apply Kd.R_drew)); exact HO227.out) hb)
                                            have n1_ := Aside0.mk (blk_below (g := gb217) (o := .cells #[.int .i64 a0_0, .int .i64 a0_1, .int .i64 a0_2, .int .i64 a0_3, .int .i64 a0_4, .int .i64 a0_5] 43 (0, 0)) (by (with_reducible repeat (first | refine blk_drewN ?_ _ | refine blk_drew ?_ | refine blk_alloc ?_ _)); exact BK217.out) hb)
                                            have n2_ := Aside0.mk (below_step (by repeat (first | (with_reducible first | exact HB.out | apply below_alloc | apply pw_below_drewN | apply below_drew1 | refine below_set ?_ GE217.out) | exact HB.out)) hb)
                                            clear HO227
                                            clear BK217
                                            clear HB
                                            have HO227 := n0_
                                            have BK217 := n1_
                                            have HB := n2_
                                            clear n0_ n1_ n2_
                                            (try clear hb)
                                            (try clear hb2)
                                            (try clear hk)
                                            (try clear hi)
                                            refine hK.out _ _ trivial (fun hHeld => ?_)
                                            clear hK K
                                            refine norm_ (a' := ?_) ?_ ?_
                                            rotate_left
                                            · show Act.put _ (some 41) _ = _
                                              simp only [Act.put, List.setIfInBounds_toArray, List.set_cons_zero, List.set_cons_succ, i64_w, i32_w]
                                              rfl
                                            refine pure_ (i := 4) (N := some 42) (v := ?_) (a' := ?_) #[true, true, true, true, true, false, false, false, false] rfl rfl (any_of HT_.out (by kernel_rfl)) (fun _ _ _ h => h) (Or.inl ⟨by rfl, ?_⟩) ?_ ?_
                                            rotate_left
                                            · intro w'
                                              go_simp
                                              with_reducible rfl
                                            rotate_left
                                            · simp only [Act.put, List.setIfInBounds_toArray, List.set_cons_zero, List.set_cons_succ, i64_w, i32_w]
                                              rfl
                                            exact norm_ (by first | (simp only [putAll, Act.put, List.setIfInBounds_toArray, List.set_cons_zero, List.set_cons_succ]; done) | (simp only [putAll, Act.put, List.setIfInBounds_toArray, List.set_cons_zero, List.set_cons_succ]; rfl)) (hJ2_3 () _ ⟨(by (with_reducible repeat (first | apply Kd.R_alloc | apply Kd.R_drewN | apply Kd.R_drew)); exact HO227.out), (by (with_reducible repeat (first | refine blk_drewN ?_ _ | refine blk_drew ?_ | refine blk_alloc ?_ _)); exact BK217.out), (by repeat (first | (with_reducible first | exact HB.out | apply below_alloc | apply pw_below_drewN | apply below_drew1 | refine below_set ?_ GE217.out) | exact HB.out))⟩)
                                          · skip
                                            refine Kd.R_make_step (Kd.int .u8) _ 5 (by rfl) (N := 43) rfl 39 _ _ rfl 192 rfl rfl Tryd.underlying39 (.int .u8 0) 1 info5 rfl (by decide) (by omega) 0 (ok := fun _ => True) (okp := fun _ => True) rfl (fun _ hk => hk) trivial (by omega) (by omega) (Below.refl _ _) (Nat.le_refl _) ?_
                                            intro v231 w41 ho42 hb hg_ hnew_
                                            clear hg_ hnew_
                                            (first | rw [← Ny230.out] at ho42 | (simp only [Int.reduceToNat] at ho42; rw [← Ny230.out] at ho42))
                                            have n0_ := Aside0.mk (Kd.R_elder' (by (with_reducible repeat (first | apply Kd.R_alloc | apply Kd.R_drewN | apply Kd.R_drew)); exact HO227.out) (Kd.R_base ho42) hb)
                                            have n1_ := Aside0.mk (Kd.R_lower (Kd.R_new' ho42 (Kd.R_lt (by (with_reducible repeat (first | apply Kd.R_alloc | apply Kd.R_drewN | apply Kd.R_drew)); exact HO227.out))) (below_size (by repeat (first | (with_reducible first | exact HB.out | apply below_alloc | apply pw_below_drewN | apply below_drew1 | refine below_set ?_ GE217.out) | exact HB.out))))
                                            have n2_ := Aside0.mk (blk_below (g := gb217) (o := .cells #[.int .i64 a0_0, .int .i64 a0_1, .int .i64 a0_2, .int .i64 a0_3, .int .i64 a0_4, .int .i64 a0_5] 43 (0, 0)) (by (with_reducible repeat (first | refine blk_drewN ?_ _ | refine blk_drew ?_ | refine blk_alloc ?_ _)); exact BK217.out) hb)
                                            have n3_ := Aside0.mk (below_step (by repeat (first | (with_reducible first | exact HB.out | apply below_alloc | apply pw_below_drewN | apply below_drew1 | refine below_set ?_ GE217.out) | exact HB.out)) hb)
                                            clear HO227
                                            clear BK217
                                            clear HB
                                            have HO227 := n0_
                                            have HO232 := n1_
                                            have BK217 := n2_
                                            have HB := n3_
                                            clear n0_ n1_ n2_ n3_
                                            clear hb ho42
                                            refine hK.out _ _ trivial (fun hHeld => ?_)
                                            clear hK K
                                            refine norm_ (a' := ?_) ?_ ?_
                                            rotate_left
                                            · show Act.put _ (some 43) _ = _
                                              simp only [Act.put, List.setIfInBounds_toArray, List.set_cons_zero, List.set_cons_succ, i64_w, i32_w]
                                              rfl
                                            exact norm_ (by first | (simp only [putAll, Act.put, List.setIfInBounds_toArray, List.set_cons_zero, List.set_cons_succ]; done) | (simp only [putAll, Act.put, List.setIfInBounds_toArray, List.set_cons_zero, List.set_cons_succ]; rfl)) (hJ2_5 (v231) _ ⟨(by (with_reducible repeat (first | apply Kd.R_alloc | apply Kd.R_drewN | apply Kd.R_drew)); exact Kd.R_mono HO227.out (fun _ hk => hk.2)), (by (with_reducible repeat (first | apply Kd.R_alloc | apply Kd.R_drewN | apply Kd.R_drew)); exact Kd.R_mono HO232.out (fun _ hk => hk.2)), (by (with_reducible repeat (first | refine blk_drewN ?_ _ | refine blk_drew ?_ | refine blk_alloc ?_ _)); exact BK217.out), (by repeat (first | (with_reducible first | exact HB.out | apply below_alloc | apply pw_below_drewN | apply below_drew1 | refine below_set ?_ GE217.out) | exact HB.out))⟩)
                                      · skip
                                        rintro v231 w42 ⟨h0_, h1_, h2_, h3_⟩
                                        have n0_ : Aside0 (Kd.R (Kd.int .u8) 5 w42 w.heap.size (fun k_ => some k_ ≠ (v231 : Value).ownBlock) v226 y225) := ⟨h0_⟩
                                        have n1_ : Aside0 (Kd.R (Kd.int .u8) 5 w42 w.heap.size (fun k_ => some k_ ≠ (v226 : Value).ownBlock) v231 y230) := ⟨h1_⟩
                                        have n2_ : Aside0 (w42.heap[gb217]? = some (.cells #[.int .i64 a0_0, .int .i64 a0_1, .int .i64 a0_2, .int .i64 a0_3, .int .i64 a0_4, .int .i64 a0_5] 43 (0, 0))) := ⟨h2_⟩
                                        have n3_ : Aside0 (Below w.heap.size w w42) := ⟨h3_⟩
                                        clear HO227
                                        clear BK217
                                        clear HB
                                        clear h0_ h1_ h2_ h3_
                                        have HO227 := n0_
                                        have HO232 := n1_
                                        have BK217 := n2_
                                        have HB := n3_
                                        clear n0_ n1_ n2_ n3_
                                        have hHeld := trivial
                                        refine norm_ (a' := ?_) ?_ ?_
                                        rotate_left
                                        · simp only [putAll, Act.put, List.setIfInBounds_toArray, List.set_cons_zero, List.set_cons_succ]
                                          rfl
                                        refine one_ (i := 2) (N := some 40) #[true, true, true, false, false, true, true, false, false] rfl rfl (one_of HT_.out (by kernel_rfl)) (by decide) (fun K hK => ?_)
                                        refine goes_ Tryd.func33 (by kernel_rfl) rfl #[.string ((((((((⟨#[85, 77, 66, 49]⟩ : ByteArray) ++ t219) ++ t220) ++ t221) ++ t222) ++ t223) ++ t224) ++ (strOfNums y225))] (by rfl) rfl rfl (by (try simp only [List.map_toArray, List.map_cons, List.map_nil]); first | done | rfl | (simp only [List.length_drop, List.length_take]; rfl)) ?_
                                        with_reducible refine (umbelref03_Of.calls ((((((((⟨#[85, 77, 66, 49]⟩ : ByteArray) ++ t219) ++ t220) ++ t221) ++ t222) ++ t223) ++ t224) ++ (strOfNums y225)) t228 _ A20.out).mono ?_
                                        rintro e w43 ⟨rfl, hb⟩
                                        refine ⟨_, rfl, ?_⟩
                                        have n0_ := Aside0.mk (Kd.R_below (by (with_reducible repeat (first | apply Kd.R_alloc | apply Kd.R_drewN | apply Kd.R_drew)); exact HO227.out) hb)
                                        have n1_ := Aside0.mk (Kd.R_below (by (with_reducible repeat (first | apply Kd.R_alloc | apply Kd.R_drewN | apply Kd.R_drew)); exact HO232.out) hb)
                                        have n2_ := Aside0.mk (blk_below (g := gb217) (o := .cells #[.int .i64 a0_0, .int .i64 a0_1, .int .i64 a0_2, .int .i64 a0_3, .int .i64 a0_4, .int .i64 a0_5] 43 (0, 0)) (by (with_reducible repeat (first | refine blk_drewN ?_ _ | refine blk_drew ?_ | refine blk_alloc ?_ _)); exact BK217.out) hb)
                                        have n3_ := Aside0.mk (below_step (by repeat (first | (with_reducible first | exact HB.out | apply below_alloc | apply pw_below_drewN | apply below_drew1 | refine below_set ?_ GE217.out) | exact HB.out)) hb)
                                        clear HO227
                                        clear HO232
                                        clear BK217
                                        clear HB
                                        have HO227 := n0_
                                        have HO232 := n1_
                                        have BK217 := n2_
                                        have HB := n3_
                                        clear n0_ n1_ n2_ n3_
                                        (try clear hb)
                                        (try clear hb2)
                                        (try clear hk)
                                        (try clear hi)
                                        refine hK.out _ _ trivial (fun hHeld => ?_)
                                        clear hK K
                                        refine norm_ (a' := ?_) ?_ ?_
                                        rotate_left
                                        · show Act.put _ (some 40) _ = _
                                          simp only [Act.put, List.setIfInBounds_toArray, List.set_cons_zero, List.set_cons_succ, i64_w, i32_w]
                                          rfl
                                        exact norm_ (by first | (simp only [putAll, Act.put, List.setIfInBounds_toArray, List.set_cons_zero, List.set_cons_succ]; done) | (simp only [putAll, Act.put, List.setIfInBounds_toArray, List.set_cons_zero, List.set_cons_succ]; rfl)) (hJ2_5_6 (v231) _ ⟨(by (with_reducible repeat (first | apply Kd.R_alloc | apply Kd.R_drewN | apply Kd.R_drew)); exact HO227.out), (by (with_reducible repeat (first | apply Kd.R_alloc | apply Kd.R_drewN | apply Kd.R_drew)); exact HO232.out), (by (with_reducible repeat (first | refine blk_drewN ?_ _ | refine blk_drew ?_ | refine blk_alloc ?_ _)); exact BK217.out), (by repeat (first | (with_reducible first | exact HB.out | apply below_alloc | apply pw_below_drewN | apply below_drew1 | refine below_set ?_ GE217.out) | exact HB.out))⟩)
                                    · skip
                                      rintro v231 w42 ⟨h0_, h1_, h2_, h3_⟩
                                      have n0_ : Aside0 (Kd.R (Kd.int .u8) 5 w42 w.heap.size (fun k_ => some k_ ≠ (v231 : Value).ownBlock) v226 y225) := ⟨h0_⟩
                                      have n1_ : Aside0 (Kd.R (Kd.int .u8) 5 w42 w.heap.size (fun k_ => some k_ ≠ (v226 : Value).ownBlock) v231 y230) := ⟨h1_⟩
                                      have n2_ : Aside0 (w42.heap[gb217]? = some (.cells #[.int .i64 a0_0, .int .i64 a0_1, .int .i64 a0_2, .int .i64 a0_3, .int .i64 a0_4, .int .i64 a0_5] 43 (0, 0))) := ⟨h2_⟩
                                      have n3_ : Aside0 (Below w.heap.size w w42) := ⟨h3_⟩
                                      clear HO227
                                      clear BK217
                                      clear HB
                                      clear h0_ h1_ h2_ h3_
                                      have HO227 := n0_
                                      have HO232 := n1_
                                      have BK217 := n2_
                                      have HB := n3_
                                      clear n0_ n1_ n2_ n3_
                                      have hHeld := trivial
                                      refine norm_ (a' := ?_) ?_ ?_
                                      rotate_left
                                      · simp only [putAll, Act.put, List.setIfInBounds_toArray, List.set_cons_zero, List.set_cons_succ]
                                        rfl
                                      refine two_ (i := 3) (j := 6) (Ni := some 41) (Nj := some 44) #[true, true, true, true, false, true, false, false, false] #[true, true, true, false, false, true, true, false, false] rfl rfl rfl rfl (two_of HT_.out (by kernel_rfl)) (by decide) (by decide) (fun K hK => ?_) (fun K hK => ?_)
                                      · skip
                                        refine goes_ Tryd.func32 (by kernel_rfl) rfl #[.int .u32 t228] (by rfl) rfl rfl (by (try simp only [List.map_toArray, List.map_cons, List.map_nil]); first | done | rfl | (simp only [List.length_drop, List.length_take]; rfl)) ?_
                                        with_reducible refine (umbelref03_Put.calls t228 t229 _ A21.out).mono ?_
                                        rintro e w43 ⟨rfl, hb⟩
                                        refine ⟨_, rfl, ?_⟩
                                        have n0_ := Aside0.mk (Kd.R_below (by (with_reducible repeat (first | apply Kd.R_alloc | apply Kd.R_drewN | apply Kd.R_drew)); exact HO227.out) hb)
                                        have n1_ := Aside0.mk (Kd.R_below (by (with_reducible repeat (first | apply Kd.R_alloc | apply Kd.R_drewN | apply Kd.R_drew)); exact HO232.out) hb)
                                        have n2_ := Aside0.mk (blk_below (g := gb217) (o := .cells #[.int .i64 a0_0, .int .i64 a0_1, .int .i64 a0_2, .int .i64 a0_3, .int .i64 a0_4, .int .i64 a0_5] 43 (0, 0)) (by (with_reducible repeat (first | refine blk_drewN ?_ _ | refine blk_drew ?_ | refine blk_alloc ?_ _)); exact BK217.out) hb)
                                        have n3_ := Aside0.mk (below_step (by repeat (first | (with_reducible first | exact HB.out | apply below_alloc | apply pw_below_drewN | apply below_drew1 | refine below_set ?_ GE217.out) | exact HB.out)) hb)
                                        clear HO227
                                        clear HO232
                                        clear BK217
                                        clear HB
                                        have HO227 := n0_
                                        have HO232 := n1_
                                        have BK217 := n2_
                                        have HB := n3_
                                        clear n0_ n1_ n2_ n3_
                                        (try clear hb)
                                        (try clear hb2)
                                        (try clear hk)
                                        (try clear hi)
                                        refine hK.out _ _ trivial (fun hHeld => ?_)
                                        clear hK K
                                        refine norm_ (a' := ?_) ?_ ?_
                                        rotate_left
                                        · show Act.put _ (some 41) _ = _
                                          simp only [Act.put, List.setIfInBounds_toArray, List.set_cons_zero, List.set_cons_succ, i64_w, i32_w]
                                          rfl
                                        refine pure_ (i := 4) (N := some 42) (v := ?_) (a' := ?_) #[true, true, true, true, true, true, false, false, false] rfl rfl (any_of HT_.out (by kernel_rfl)) (fun _ _ _ h => h) (Or.inl ⟨by rfl, ?_⟩) ?_ ?_
                                        rotate_left
                                        · intro w'
                                          go_simp
                                          with_reducible rfl
                                        rotate_left
                                        · simp only [Act.put, List.setIfInBounds_toArray, List.set_cons_zero, List.set_cons_succ, i64_w, i32_w]
                                          rfl
                                        exact norm_ (by first | (simp only [putAll, Act.put, List.setIfInBounds_toArray, List.set_cons_zero, List.set_cons_succ]; done) | (simp only [putAll, Act.put, List.setIfInBounds_toArray, List.set_cons_zero, List.set_cons_succ]; rfl)) (hJ2_3_5 (v231) _ ⟨(by (with_reducible repeat (first | apply Kd.R_alloc | apply Kd.R_drewN | apply Kd.R_drew)); exact HO227.out), (by (with_reducible repeat (first | apply Kd.R_alloc | apply Kd.R_drewN | apply Kd.R_drew)); exact HO232.out), (by (with_reducible repeat (first | refine blk_drewN ?_ _ | refine blk_drew ?_ | refine blk_alloc ?_ _)); exact BK217.out), (by repeat (first | (with_reducible first | exact HB.out | apply below_alloc | apply pw_below_drewN | apply below_drew1 | refine below_set ?_ GE217.out) | exact HB.out))⟩)
                                      · skip
                                        have hcv43 := own_string (P := Tryd.prog) Tryd.underlying39 Tryd.underlying5 Tryd.underlying9 (Kd.own_of_R HO232.out)
                                        refine value_ (w1 := ?_) (v := ?_) (by rfl) rfl ?_ ?_
                                        rotate_left 2
                                        · go_simp
                                          constructor
                                          · rfl
                                          · rfl
                                        clear hcv43
                                        refine hK.out _ _ trivial (fun hHeld => ?_)
                                        clear hK K
                                        refine norm_ (a' := ?_) ?_ ?_
                                        rotate_left
                                        · show Act.put _ (some 44) _ = _
                                          simp only [Act.put, List.setIfInBounds_toArray, List.set_cons_zero, List.set_cons_succ, i64_w, i32_w]
                                          rfl
                                        exact norm_ (by first | (simp only [putAll, Act.put, List.setIfInBounds_toArray, List.set_cons_zero, List.set_cons_succ]; done) | (simp only [putAll, Act.put, List.setIfInBounds_toArray, List.set_cons_zero, List.set_cons_succ]; rfl)) (hJ2_5_6 (v231) _ ⟨(by (with_reducible repeat (first | apply Kd.R_alloc | apply Kd.R_drewN | apply Kd.R_drew)); exact HO227.out), (by (with_reducible repeat (first | apply Kd.R_alloc | apply Kd.R_drewN | apply Kd.R_drew)); exact HO232.out), (by (with_reducible repeat (first | refine blk_drewN ?_ _ | refine blk_drew ?_ | refine blk_alloc ?_ _)); exact BK217.out), (by repeat (first | (with_reducible first | exact HB.out | apply below_alloc | apply pw_below_drewN | apply below_drew1 | refine below_set ?_ GE217.out) | exact HB.out))⟩)
                                  · skip
                                    rintro _ w41 ⟨h0_, h1_, h2_⟩
                                    have n0_ : Aside0 (Kd.R (Kd.int .u8) 5 w41 w.heap.size (fun _ => True) v226 y225) := ⟨h0_⟩
                                    have n1_ : Aside0 (w41.heap[gb217]? = some (.cells #[.int .i64 a0_0, .int .i64 a0_1, .int .i64 a0_2, .int .i64 a0_3, .int .i64 a0_4, .int .i64 a0_5] 43 (0, 0))) := ⟨h1_⟩
                                    have n2_ : Aside0 (Below w.heap.size w w41) := ⟨h2_⟩
                                    clear HO227
                                    clear BK217
                                    clear HB
                                    clear h0_ h1_ h2_
                                    have HO227 := n0_
                                    have BK217 := n1_
                                    have HB := n2_
                                    clear n0_ n1_ n2_
                                    have hHeld := trivial
                                    refine norm_ (a' := ?_) ?_ ?_
                                    rotate_left
                                    · simp only [putAll, Act.put, List.setIfInBounds_toArray, List.set_cons_zero, List.set_cons_succ]
                                      rfl
                                    refine one_ (i := 5) (N := some 43) #[true, true, true, true, true, true, false, false, false] rfl rfl (one_of HT_.out (by kernel_rfl)) (by decide) (fun K hK => ?_)
                                    refine Kd.R_make_step (Kd.int .u8) _ 5 (by rfl) (N := 43) rfl 39 _ _ rfl 192 rfl rfl Tryd.underlying39 (.int .u8 0) 1 info5 rfl (by decide) (by omega) 0 (ok := fun _ => True) (okp := fun _ => True) rfl (fun _ hk => hk) trivial (by omega) (by omega) (Below.refl _ _) (Nat.le_refl _) ?_
                                    intro v231 w42 ho43 hb hg_ hnew_
                                    clear hg_ hnew_
                                    (first | rw [← Ny230.out] at ho43 | (simp only [Int.reduceToNat] at ho43; rw [← Ny230.out] at ho43))
                                    have n0_ := Aside0.mk (Kd.R_elder' (by (with_reducible repeat (first | apply Kd.R_alloc | apply Kd.R_drewN | apply Kd.R_drew)); exact HO227.out) (Kd.R_base ho43) hb)
                                    have n1_ := Aside0.mk (Kd.R_lower (Kd.R_new' ho43 (Kd.R_lt (by (with_reducible repeat (first | apply Kd.R_alloc | apply Kd.R_drewN | apply Kd.R_drew)); exact HO227.out))) (below_size (by repeat (first | (with_reducible first | exact HB.out | apply below_alloc | apply pw_below_drewN | apply below_drew1 | refine below_set ?_ GE217.out) | exact HB.out))))
                                    have n2_ := Aside0.mk (blk_below (g := gb217) (o := .cells #[.int .i64 a0_0, .int .i64 a0_1, .int .i64 a0_2, .int .i64 a0_3, .int .i64 a0_4, .int .i64 a0_5] 43 (0, 0)) (by (with_reducible repeat (first | refine blk_drewN ?_ _ | refine blk_drew ?_ | refine blk_alloc ?_ _)); exact BK217.out) hb)
                                    have n3_ := Aside0.mk (below_step (by repeat (first | (with_reducible first | exact HB.out | apply below_alloc | apply pw_below_drewN | apply below_drew1 | refine below_set ?_ GE217.out) | exact HB.out)) hb)
                                    clear HO227
                                    clear BK217
                                    clear HB
                                    have HO227 := n0_
                                    have HO232 := n1_
                                    have BK217 := n2_
                                    have HB := n3_
                                    clear n0_ n1_ n2_ n3_
                                    clear hb ho43
                                    refine hK.out _ _ trivial (fun hHeld => ?_)
                                    clear hK K
                                    refine norm_ (a' := ?_) ?_ ?_
                                    rotate_left
                                    · show Act.put _ (some 43) _ = _
                                      simp only [Act.put, List.setIfInBounds_toArray, List.set_cons_zero, List.set_cons_succ, i64_w, i32_w]
                                      rfl
                                    exact norm_ (by first | (simp only [putAll, Act.put, List.setIfInBounds_toArray, List.set_cons_zero, List.set_cons_succ]; done) | (simp only [putAll, Act.put, List.setIfInBounds_toArray, List.set_cons_zero, List.set_cons_succ]; rfl)) (hJ2_3_5 (v231) _ ⟨(by (with_reducible repeat (first | apply Kd.R_alloc | apply Kd.R_drewN | apply Kd.R_drew)); exact Kd.R_mono HO227.out (fun _ hk => hk.2)), (by (with_reducible repeat (first | apply Kd.R_alloc | apply Kd.R_drewN | apply Kd.R_drew)); exact Kd.R_mono HO232.out (fun _ hk => hk.2)), (by (with_reducible repeat (first | refine blk_drewN ?_ _ | refine blk_drew ?_ | refine blk_alloc ?_ _)); exact BK217.out), (by repeat (first | (with_reducible first | exact HB.out | apply below_alloc | apply pw_below_drewN | apply below_drew1 | refine below_set ?_ GE217.out) | exact HB.out))⟩)
                                · skip
                                  rintro v231 w43 ⟨h0_, h1_, h2_, h3_⟩
                                  have n0_ : Aside0 (Kd.R (Kd.int .u8) 5 w43 w.heap.size (fun k_ => some k_ ≠ (v231 : Value).ownBlock) v226 y225) := ⟨h0_⟩
                                  have n1_ : Aside0 (Kd.R (Kd.int .u8) 5 w43 w.heap.size (fun k_ => some k_ ≠ (v226 : Value).ownBlock) v231 y230) := ⟨h1_⟩
                                  have n2_ : Aside0 (w43.heap[gb217]? = some (.cells #[.int .i64 a0_0, .int .i64 a0_1, .int .i64 a0_2, .int .i64 a0_3, .int .i64 a0_4, .int .i64 a0_5] 43 (0, 0))) := ⟨h2_⟩
                                  have n3_ : Aside0 (Below w.heap.size w w43) := ⟨h3_⟩
                                  clear HO227
                                  clear BK217
                                  clear HB
                                  clear h0_ h1_ h2_ h3_
                                  have HO227 := n0_
                                  have HO232 := n1_
                                  have BK217 := n2_
                                  have HB := n3_
                                  clear n0_ n1_ n2_ n3_
                                  have hHeld := trivial
                                  refine norm_ (a' := ?_) ?_ ?_
                                  rotate_left
                                  · simp only [putAll, Act.put, List.setIfInBounds_toArray, List.set_cons_zero, List.set_cons_succ]
                                    rfl
                                  refine one_ (i := 3) (N := some 41) #[true, true, true, true, false, true, true, false, false] rfl rfl (one_of HT_.out (by kernel_rfl)) (by decide) (fun K hK => ?_)
                                  refine goes_ Tryd.func32 (by kernel_rfl) rfl #[.int .u32 t228] (by rfl) rfl rfl (by (try simp only [List.map_toArray, List.map_cons, List.map_nil]); first | done | rfl | (simp only [List.length_drop, List.length_take]; rfl)) ?_
                                  with_reducible refine (umbelref03_Put.calls t228 t229 _ A21.out).mono ?_
                                  rintro e w44 ⟨rfl, hb⟩
                                  refine ⟨_, rfl, ?_⟩
                                  have n0_ := Aside0.mk (Kd.R_below (by (with_reducible repeat (first | apply Kd.R_alloc | apply Kd.R_drewN | apply Kd.R_drew)); exact HO227.out) hb)
                                  have n1_ := Aside0.mk (Kd.R_below (by (with_reducible repeat (first | apply Kd.R_alloc | apply Kd.R_drewN | apply Kd.R_drew)); exact HO232.out) hb)
                                  have n2_ := Aside0.mk (blk_below (g := gb217) (o := .cells #[.int .i64 a0_0, .int .i64 a0_1, .int .i64 a0_2, .int .i64 a0_3, .int .i64 a0_4, .int .i64 a0_5] 43 (0, 0)) (by (with_reducible repeat (first | refine blk_drewN ?_ _ | refine blk_drew ?_ | refine blk_alloc ?_ _)); exact BK217.out) hb)
                                  have n3_ := Aside0.mk (below_step (by repeat (first | (with_reducible first | exact HB.out | apply below_alloc | apply pw_below_drewN | apply below_drew1 | refine below_set ?_ GE217.out) | exact HB.out)) hb)
                                  clear HO227
                                  clear HO232
                                  clear BK217
                                  clear HB
                                  have HO227 := n0_
                                  have HO232 := n1_
                                  have BK217 := n2_
                                  have HB := n3_
                                  clear n0_ n1_ n2_ n3_
                                  (try clear hb)
                                  (try clear hb2)
                                  (try clear hk)
                                  (try clear hi)
                                  refine hK.out _ _ trivial (fun hHeld => ?_)
                                  clear hK K
                                  refine norm_ (a' := ?_) ?_ ?_
                                  rotate_left
                                  · show Act.put _ (some 41) _ = _
                                    simp only [Act.put, List.setIfInBounds_toArray, List.set_cons_zero, List.set_cons_succ, i64_w, i32_w]
                                    rfl
                                  refine pure_ (i := 4) (N := some 42) (v := ?_) (a' := ?_) #[true, true, true, true, true, true, true, false, false] rfl rfl (any_of HT_.out (by kernel_rfl)) (fun _ _ _ h => h) (Or.inl ⟨by rfl, ?_⟩) ?_ ?_
                                  rotate_left
                                  · intro w'
                                    go_simp
                                    with_reducible rfl
                                  rotate_left
                                  · simp only [Act.put, List.setIfInBounds_toArray, List.set_cons_zero, List.set_cons_succ, i64_w, i32_w]
                                    rfl
                                  exact norm_ (by first | (simp only [putAll, Act.put, List.setIfInBounds_toArray, List.set_cons_zero, List.set_cons_succ]; done) | (simp only [putAll, Act.put, List.setIfInBounds_toArray, List.set_cons_zero, List.set_cons_succ]; rfl)) (hJ2_3_5_6 (v231) _ ⟨(by (with_reducible repeat (first | apply Kd.R_alloc | apply Kd.R_drewN | apply Kd.R_drew)); exact HO227.out), (by (with_reducible repeat (first | apply Kd.R_alloc | apply Kd.R_drewN | apply Kd.R_drew)); exact HO232.out), (by (with_reducible repeat (first | refine blk_drewN ?_ _ | refine blk_drew ?_ | refine blk_alloc ?_ _)); exact BK217.out), (by repeat (first | (with_reducible first | exact HB.out | apply below_alloc | apply pw_below_drewN | apply below_drew1 | refine below_set ?_ GE217.out) | exact HB.out))⟩)
                              · skip
                                rintro v231 w43 ⟨h0_, h1_, h2_, h3_⟩
                                have n0_ : Aside0 (Kd.R (Kd.int .u8) 5 w43 w.heap.size (fun k_ => some k_ ≠ (v231 : Value).ownBlock) v226 y225) := ⟨h0_⟩
                                have n1_ : Aside0 (Kd.R (Kd.int .u8) 5 w43 w.heap.size (fun k_ => some k_ ≠ (v226 : Value).ownBlock) v231 y230) := ⟨h1_⟩
                                have n2_ : Aside0 (w43.heap[gb217]? = some (.cells #[.int .i64 a0_0, .int .i64 a0_1, .int .i64 a0_2, .int .i64 a0_3, .int .i64 a0_4, .int .i64 a0_5] 43 (0, 0))) := ⟨h2_⟩
                                have n3_ : Aside0 (Below w.heap.size w w43) := ⟨h3_⟩
                                clear HO227
                                clear BK217
                                clear HB
                                clear h0_ h1_ h2_ h3_
                                have HO227 := n0_
                                have HO232 := n1_
                                have BK217 := n2_
                                have HB := n3_
                                clear n0_ n1_ n2_ n3_
                                have hHeld := trivial
                                refine norm_ (a' := ?_) ?_ ?_
                                rotate_left
                                · simp only [putAll, Act.put, List.setIfInBounds_toArray, List.set_cons_zero, List.set_cons_succ]
                                  rfl
                                refine one_ (i := 6) (N := some 44) #[true, true, true, true, true, true, true, false, false] rfl rfl (one_of HT_.out (by kernel_rfl)) (by decide) (fun K hK => ?_)
                                have hcv44 := own_string (P := Tryd.prog) Tryd.underlying39 Tryd.underlying5 Tryd.underlying9 (Kd.own_of_R HO232.out)
                                refine value_ (w1 := ?_) (v := ?_) (by rfl) rfl ?_ ?_
                                rotate_left 2
                                · go_simp
                                  constructor
                                  · rfl
                                  · rfl
                                clear hcv44
                                refine hK.out _ _ trivial (fun hHeld => ?_)
                                clear hK K
                                refine norm_ (a' := ?_) ?_ ?_
                                rotate_left
                                · show Act.put _ (some 44) _ = _
                                  simp only [Act.put, List.setIfInBounds_toArray, List.set_cons_zero, List.set_cons_succ, i64_w, i32_w]
                                  rfl
                                exact norm_ (by first | (simp only [putAll, Act.put, List.setIfInBounds_toArray, List.set_cons_zero, List.set_cons_succ]; done) | (simp only [putAll, Act.put, List.setIfInBounds_toArray, List.set_cons_zero, List.set_cons_succ]; rfl)) (hJ2_3_5_6 (v231) _ ⟨(by (with_reducible repeat (first | apply Kd.R_alloc | apply Kd.R_drewN | apply Kd.R_drew)); exact HO227.out), (by (with_reducible repeat (first | apply Kd.R_alloc | apply Kd.R_drewN | apply Kd.R_drew)); exact HO232.out), (by (with_reducible repeat (first | refine blk_drewN ?_ _ | refine blk_drew ?_ | refine blk_alloc ?_ _)); exact BK217.out), (by repeat (first | (with_reducible first | exact HB.out | apply below_alloc | apply pw_below_drewN | apply below_drew1 | refine below_set ?_ GE217.out) | exact HB.out))⟩)
                            rintro v231 w44 ⟨h0_, h1_, h2_, h3_⟩
                            have n0_ : Aside0 (Kd.R (Kd.int .u8) 5 w44 w.heap.size (fun k_ => some k_ ≠ (v231 : Value).ownBlock) v226 y225) := ⟨h0_⟩
                            have n1_ : Aside0 (Kd.R (Kd.int .u8) 5 w44 w.heap.size (fun k_ => some k_ ≠ (v226 : Value).ownBlock) v231 y230) := ⟨h1_⟩
                            have n2_ : Aside0 (w44.heap[gb217]? = some (.cells #[.int .i64 a0_0, .int .i64 a0_1, .int .i64 a0_2, .int .i64 a0_3, .int .i64 a0_4, .int .i64 a0_5] 43 (0, 0))) := ⟨h2_⟩
                            have n3_ : Aside0 (Below w.heap.size w w44) := ⟨h3_⟩
                            clear HO227
                            clear BK217
                            clear HB
                            clear h0_ h1_ h2_ h3_
                            have HO227 := n0_
                            have HO232 := n1_
                            have BK217 := n2_
                            have HB := n3_
                            clear n0_ n1_ n2_ n3_
                            have hHeld := trivial
                            refine norm_ (a' := ?_) ?_ ?_
                            rotate_left
                            · simp only [putAll, Act.put, List.setIfInBounds_toArray, List.set_cons_zero, List.set_cons_succ]
                              rfl
                            refine pure_ (i := 7) (N := some 45) (v := ?_) (a' := ?_) #[true, true, true, true, true, true, true, true, false] rfl rfl (any_of HT_.out (by kernel_rfl)) (fun _ _ _ h => h) (Or.inl ⟨by rfl, ?_⟩) ?_ ?_
                            rotate_left
                            · intro w'
                              go_simp
                              with_reducible rfl
                            rotate_left
                            · simp only [Act.put, List.setIfInBounds_toArray, List.set_cons_zero, List.set_cons_succ, i64_w, i32_w]
                              rfl
                            refine pure_ (i := 8) (N := some 2) (v := ?_) (a' := ?_) #[true, true, true, true, true, true, true, true, true] rfl rfl (any_of HT_.out (by kernel_rfl)) (fun _ _ _ h => h) (Or.inl ⟨by rfl, ?_⟩) ?_ ?_
                            rotate_left
                            · intro w'
                              go_simp
                              with_reducible rfl
                            rotate_left
                            · simp only [Act.put, List.setIfInBounds_toArray, List.set_cons_zero, List.set_cons_succ, i64_w, i32_w]
                              rfl
                            refine done_ (done_of HT_.out (by kernel_rfl)) ?_
                            try subst hji16s
                            try go_wp2
                            go_ret
                            exact ⟨by first | rfl | (simp [errW_none, errW_some] <;> rfl) | (simp only [← hji16]; first | rfl | (simp [errW_none, errW_some] <;> rfl)) | (simp [*, errW_none, errW_some] <;> rfl), by repeat (first | (with_reducible first | exact HB.out | apply below_alloc | apply pw_below_drewN | apply below_drew1 | refine below_set ?_ GE217.out) | exact HB.out)⟩
                          · rw [if_neg c24] at H
                            exact absurd H (by simp)
                        · rw [if_neg c23] at H
                          exact absurd H (by simp)
                      · rw [if_neg c22] at H
                        exact absurd H (by simp)
                    · rw [if_neg c19] at H
                      exact absurd H (by simp)
                  · rw [if_neg c18] at H
                    exact absurd H (by simp)
                · rw [if_neg c17] at H
                  exact absurd H (by simp)
              · rw [if_neg c15] at H
                exact absurd H (by simp)
            · rw [if_neg c13] at H
              exact absurd H (by simp)
          · rw [if_neg c11] at H
            exact absurd H (by simp)
        · rw [if_neg c9] at H
          exact absurd H (by simp)
      · rw [if_neg c7] at H
        exact absurd H (by simp)
    · rw [if_neg c5] at H
      exact absurd H (by simp)
  · replace c3 := Bool.eq_false_iff.mpr c3
    subst c3
    have H1 : (some (⟨#[]⟩ : ByteArray)) = some r := by rw [if_neg (show ¬ (false = true) by decide)] at H; exact H
    clear H
    have H := H1
    clear H1
    obtain rfl := Option.some.inj H
    go_enter Tryd.func19, Tryd.ntmps19
    go_wp2_with (first | ((with_reducible refine gate_dst (N := 1) rfl ?_); refine box_event ?hg (N := 1) ?hd (cs := #[.int .i64 a0_0, .int .i64 a0_1, .int .i64 a0_2, .int .i64 a0_3, .int .i64 a0_4, .int .i64 a0_5]) (t := 43) ?hr ?_; (case hd => rfl); (case hg => rfl); (case hr => first | (go_simp; done) | (go_simp; rfl)); intro gb217 hg w45 hbox hb; have n0_ := Aside0.mk (below_step (by repeat (first | (with_reducible first | exact HB.out | apply below_alloc | apply pw_below_drewN | apply below_drew1) | exact HB.out)) hb); have n1_ := Aside0.mk (hbox); have n2_ := Aside0.mk ((by rw [hg]; exact (below_size (by repeat (first | (with_reducible first | exact HB.out | apply below_alloc | apply pw_below_drewN | apply below_drew1) | exact HB.out))) : w.heap.size ≤ gb217)); have n3_ := Aside0.mk ((by rw [hg]; exact (below_size (by repeat (first | (with_reducible first | exact HB.out | apply below_alloc | apply pw_below_drewN | apply below_drew1) | exact HB.out))) : w.heap.size ≤ gb217)); clear HB; have HB := n0_; have BK217 := n1_; have GW217 := n2_; have GE217 := n3_; clear n0_ n1_ n2_ n3_; clear hb hbox hg; have hcz46_0 : w45.cell? ⟨gb217, 0, none⟩ = some (.int .i64 a0_0) := (blk_cell BK217.out 0).trans rfl; have hcz46_1 : w45.cell? ⟨gb217, 1, none⟩ = some (.int .i64 a0_1) := (blk_cell BK217.out 1).trans rfl; have hcz46_2 : w45.cell? ⟨gb217, 2, none⟩ = some (.int .i64 a0_2) := (blk_cell BK217.out 2).trans rfl; have hcz46_3 : w45.cell? ⟨gb217, 3, none⟩ = some (.int .i64 a0_3) := (blk_cell BK217.out 3).trans rfl; have hcz46_4 : w45.cell? ⟨gb217, 4, none⟩ = some (.int .i64 a0_4) := (blk_cell BK217.out 4).trans rfl; have hcz46_5 : w45.cell? ⟨gb217, 5, none⟩ = some (.int .i64 a0_5) := (blk_cell BK217.out 5).trans rfl; have hfz46_0 := blk_frozen BK217.out 0; have hfz46_1 := blk_frozen BK217.out 1; have hfz46_2 := blk_frozen BK217.out 2; have hfz46_3 := blk_frozen BK217.out 3; have hfz46_4 := blk_frozen BK217.out 4; have hfz46_5 := blk_frozen BK217.out 5) | ((with_reducible refine gate_callee (f := 25) rfl ?_); refine goesL_ (some 5) rfl rfl Tryd.func25 (by kernel_rfl) rfl #[.agg #[.int .i64 a0_0, .int .i64 a0_1, .int .i64 a0_2, .int .i64 a0_3, .int .i64 a0_4, .int .i64 a0_5]] rfl (by (try simp only [List.map_toArray, List.map_cons, List.map_nil]); first | done | rfl | (simp only [List.length_drop, List.length_take]; rfl)) ?_; (with_reducible refine (umbelref23_Good.calls a0_0 a0_1 a0_2 a0_3 a0_4 a0_5 false _ A2.out).mono ?_); rintro e w47 ⟨rfl, hb⟩; refine ⟨_, rfl, ?_⟩; have n0_ := Aside0.mk (blk_below (g := gb217) (o := .cells #[.int .i64 a0_0, .int .i64 a0_1, .int .i64 a0_2, .int .i64 a0_3, .int .i64 a0_4, .int .i64 a0_5] 43 (0, 0)) (by (with_reducible repeat (first | refine blk_drewN ?_ _ | refine blk_drew ?_ | refine blk_alloc ?_ _)); exact BK217.out) hb); have n1_ := Aside0.mk (below_step (by repeat (first | (with_reducible first | exact HB.out | apply below_alloc | apply pw_below_drewN | apply below_drew1 | refine below_set ?_ GE217.out) | exact HB.out)) hb); clear BK217; clear HB; have BK217 := n0_; have HB := n1_; clear n0_ n1_; (try clear hb); (try clear hb2); (try clear hk); (try clear hi)))
    go_ret
    exact ⟨by first | rfl | (simp [errW_none, errW_some] <;> rfl) | (simp [*, errW_none, errW_some] <;> rfl), by repeat (first | (with_reducible first | exact HB.out | apply below_alloc | apply pw_below_drewN | apply below_drew1 | refine below_set ?_ GE217.out) | exact HB.out)⟩

end Go.Proofs.YtiajgmocmnjijaaDoor.PSup
