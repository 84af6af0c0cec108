-- Written by a program of this session for this seat. Not trusted: Lean checks it.
import Derived.Test.YtiajgmocmnjijaaDoorPSupx0
import Derived.Test.YtiajgmocmnjijaaDoorPSupx2
namespace Go.Proofs.YtiajgmocmnjijaaDoor.PSup
open Go.RowKit Go.Proofs.YtiajgmocmnjijaaDoorW.PrintWords Go.Proofs.YtiajgmocmnjijaaDoorW.PrintLast Go.Proofs.YtiajgmocmnjijaaDoorW.PrintMore
attribute [local go_sem] max2_int min2_int max_two min_two max_three min_three max_four min_four   -- for this text's walks alone
set_option linter.unusedVariables false
set_option linter.unusedSimpArgs false
open Go.Proofs.YtiajgmocmnjijaaDoor.HW Go.Proofs.YtiajgmocmnjijaaDoor.SumH

/-! ### super_sector: function 37 -/
def super_sector.f (k : Nat) (a0_0 : Int) (a0_1 : Int) (a0_2 : Int) (a0_3 : Int) (a0_4 : Int) (a0_5 : Int) : Option (ByteArray) := (super_put.f k a0_0 4).bind fun t121 => (if 4 + t121.size ≤ 9223372036854775807 then ((super_put.f k a0_1 4).bind fun t122 => (if ((⟨#[85, 77, 66, 49]⟩ : ByteArray) ++ t121).size + t122.size ≤ 9223372036854775807 then ((super_put.f k a0_2 2).bind fun t123 => (if (((⟨#[85, 77, 66, 49]⟩ : ByteArray) ++ t121) ++ t122).size + t123.size ≤ 9223372036854775807 then ((super_put.f k a0_3 2).bind fun t124 => (if ((((⟨#[85, 77, 66, 49]⟩ : ByteArray) ++ t121) ++ t122) ++ t123).size + t124.size ≤ 9223372036854775807 then ((super_put.f k a0_4 2).bind fun t125 => (if (((((⟨#[85, 77, 66, 49]⟩ : ByteArray) ++ t121) ++ t122) ++ t123) ++ t124).size + t125.size ≤ 9223372036854775807 then ((super_put.f k a0_5 1).bind fun t126 => (if ((((((⟨#[85, 77, 66, 49]⟩ : ByteArray) ++ t121) ++ t122) ++ t123) ++ t124) ++ t125).size + t126.size ≤ 9223372036854775807 then ((strings_Repeat.f (⟨#[0]⟩ : ByteArray) 41).bind fun t127 => (if (((((((⟨#[85, 77, 66, 49]⟩ : ByteArray) ++ t121) ++ t122) ++ t123) ++ t124) ++ t125) ++ t126).size + t127.size ≤ 9223372036854775807 then ((sum_Of.f ((((((((⟨#[85, 77, 66, 49]⟩ : ByteArray) ++ t121) ++ t122) ++ t123) ++ t124) ++ t125) ++ t126) ++ t127)).bind fun t128 => ((sum_Put.f t128).bind fun t129 => (if ((((((((⟨#[85, 77, 66, 49]⟩ : ByteArray) ++ t121) ++ t122) ++ t123) ++ t124) ++ t125) ++ t126) ++ t127).size + t129.size ≤ 9223372036854775807 then (some (((((((((⟨#[85, 77, 66, 49]⟩ : ByteArray) ++ t121) ++ t122) ++ t123) ++ t124) ++ t125) ++ t126) ++ t127) ++ t129)) else (none)))) else (none))) else (none))) else (none))) else (none))) else (none))) else (none))) else (none))
def super_sector.T1 : Bool × List (List Nat × List Nat) := (true, [([], []), ([0], [0]), ([1], [1]), ([2], [2]), ([], []), ([4], [4]), ([5, 2], [5]), ([3, 6], [3, 6]), ([], []), ([8], [8]), ([9, 6], [9]), ([7, 10], [7, 10]), ([], []), ([12], [12]), ([13, 10], [13]), ([11, 14], [11, 14]), ([], []), ([16], [16]), ([17, 14], [17]), ([15, 18], [15, 18]), ([], []), ([20], [20]), ([21, 18], [21]), ([19, 22], [19, 22]), ([23, 22, 0, 1, 2, 3, 4, 5, 6, 7, 8, 9, 10, 11, 12, 13, 14, 15, 16, 17, 18, 19, 20, 21, 22, 23], [23])])
def super_sector.B1 : List Nat := [0, 1, 3, 7, 0, 16, 55, 127, 0, 256, 887, 2047, 0, 4096, 14199, 32767, 0, 65536, 227191, 524287, 0, 1048576, 3635063, 8388607, 16777215]
theorem super_sector.tab1 : rtab .any (opsOf Tryd.f37 1) = super_sector.T1 := by kernel_rfl
theorem super_sector.bits1 : waitsOk super_sector.T1.2 super_sector.B1 = true := by kernel_rfl
set_option maxHeartbeats 8000000 in
set_option maxRecDepth 100000 in
theorem super_sector.calls (k : Nat) (a0_0 : Int) (a0_1 : Int) (a0_2 : Int) (a0_3 : Int) (a0_4 : Int) (a0_5 : Int) (r : ByteArray) (w : World) (hG : Glob w) (h : super_sector.f k a0_0 a0_1 a0_2 a0_3 a0_4 a0_5 = some r) :
    Calls Tryd.prog 37 #[.agg #[.int .i64 a0_0, .int .i64 a0_1, .int .i64 a0_2, .int .i64 a0_3, .int .i64 a0_4, .int .i64 a0_5]] w fun e w' => e = .returned (.string r) ∧ Below w.heap.size w w' := by
  have hu43 := Tryd.underlying43
  have HG := Aside0.mk hG
  clear hG
  have HB := Aside0.mk (Below.refl w.heap.size w)
  have H : ((super_put.f k a0_0 4).bind fun t121 => (if 4 + t121.size ≤ 9223372036854775807 then ((super_put.f k a0_1 4).bind fun t122 => (if ((⟨#[85, 77, 66, 49]⟩ : ByteArray) ++ t121).size + t122.size ≤ 9223372036854775807 then ((super_put.f k a0_2 2).bind fun t123 => (if (((⟨#[85, 77, 66, 49]⟩ : ByteArray) ++ t121) ++ t122).size + t123.size ≤ 9223372036854775807 then ((super_put.f k a0_3 2).bind fun t124 => (if ((((⟨#[85, 77, 66, 49]⟩ : ByteArray) ++ t121) ++ t122) ++ t123).size + t124.size ≤ 9223372036854775807 then ((super_put.f k a0_4 2).bind fun t125 => (if (((((⟨#[85, 77, 66, 49]⟩ : ByteArray) ++ t121) ++ t122) ++ t123) ++ t124).size + t125.size ≤ 9223372036854775807 then ((super_put.f k a0_5 1).bind fun t126 => (if ((((((⟨#[85, 77, 66, 49]⟩ : ByteArray) ++ t121) ++ t122) ++ t123) ++ t124) ++ t125).size + t126.size ≤ 9223372036854775807 then ((strings_Repeat.f (⟨#[0]⟩ : ByteArray) 41).bind fun t127 => (if (((((((⟨#[85, 77, 66, 49]⟩ : ByteArray) ++ t121) ++ t122) ++ t123) ++ t124) ++ t125) ++ t126).size + t127.size ≤ 9223372036854775807 then ((sum_Of.f ((((((((⟨#[85, 77, 66, 49]⟩ : ByteArray) ++ t121) ++ t122) ++ t123) ++ t124) ++ t125) ++ t126) ++ t127)).bind fun t128 => ((sum_Put.f t128).bind fun t129 => (if ((((((((⟨#[85, 77, 66, 49]⟩ : ByteArray) ++ t121) ++ t122) ++ t123) ++ t124) ++ t125) ++ t126) ++ t127).size + t129.size ≤ 9223372036854775807 then (some (((((((((⟨#[85, 77, 66, 49]⟩ : ByteArray) ++ t121) ++ t122) ++ t123) ++ t124) ++ t125) ++ t126) ++ t127) ++ t129)) else (none)))) else (none))) else (none))) else (none))) else (none))) else (none))) else (none))) else (none))) = some r := h
  clear h
  replace H := Option.bind_eq_some_iff.mp H
  obtain ⟨t121, A20, H⟩ := H
  replace H : (if 4 + t121.size ≤ 9223372036854775807 then ((super_put.f k a0_1 4).bind fun t122 => (if ((⟨#[85, 77, 66, 49]⟩ : ByteArray) ++ t121).size + t122.size ≤ 9223372036854775807 then ((super_put.f k a0_2 2).bind fun t123 => (if (((⟨#[85, 77, 66, 49]⟩ : ByteArray) ++ t121) ++ t122).size + t123.size ≤ 9223372036854775807 then ((super_put.f k a0_3 2).bind fun t124 => (if ((((⟨#[85, 77, 66, 49]⟩ : ByteArray) ++ t121) ++ t122) ++ t123).size + t124.size ≤ 9223372036854775807 then ((super_put.f k a0_4 2).bind fun t125 => (if (((((⟨#[85, 77, 66, 49]⟩ : ByteArray) ++ t121) ++ t122) ++ t123) ++ t124).size + t125.size ≤ 9223372036854775807 then ((super_put.f k a0_5 1).bind fun t126 => (if ((((((⟨#[85, 77, 66, 49]⟩ : ByteArray) ++ t121) ++ t122) ++ t123) ++ t124) ++ t125).size + t126.size ≤ 9223372036854775807 then ((strings_Repeat.f (⟨#[0]⟩ : ByteArray) 41).bind fun t127 => (if (((((((⟨#[85, 77, 66, 49]⟩ : ByteArray) ++ t121) ++ t122) ++ t123) ++ t124) ++ t125) ++ t126).size + t127.size ≤ 9223372036854775807 then ((sum_Of.f ((((((((⟨#[85, 77, 66, 49]⟩ : ByteArray) ++ t121) ++ t122) ++ t123) ++ t124) ++ t125) ++ t126) ++ t127)).bind fun t128 => ((sum_Put.f t128).bind fun t129 => (if ((((((((⟨#[85, 77, 66, 49]⟩ : ByteArray) ++ t121) ++ t122) ++ t123) ++ t124) ++ t125) ++ t126) ++ t127).size + t129.size ≤ 9223372036854775807 then (some (((((((((⟨#[85, 77, 66, 49]⟩ : ByteArray) ++ t121) ++ t122) ++ t123) ++ t124) ++ t125) ++ t126) ++ t127) ++ t129)) else (none)))) else (none))) else (none))) else (none))) else (none))) else (none))) else (none))) else (none)) = some r := H
  have A2 := Aside0.mk A20
  clear A20
  by_cases c3 : 4 + t121.size ≤ 9223372036854775807
  · rw [if_pos c3] at H
    have c3b0 := eq_true c3
    have c3b1 : decide (4 + t121.size ≤ 9223372036854775807) = true := decide_eq_true c3
    try have c3b2 : (9223372036854775807 < 4 + t121.size) = False := eq_false (Nat.not_lt.2 c3)
    replace H := Option.bind_eq_some_iff.mp H
    obtain ⟨t122, A40, H⟩ := H
    replace H : (if ((⟨#[85, 77, 66, 49]⟩ : ByteArray) ++ t121).size + t122.size ≤ 9223372036854775807 then ((super_put.f k a0_2 2).bind fun t123 => (if (((⟨#[85, 77, 66, 49]⟩ : ByteArray) ++ t121) ++ t122).size + t123.size ≤ 9223372036854775807 then ((super_put.f k a0_3 2).bind fun t124 => (if ((((⟨#[85, 77, 66, 49]⟩ : ByteArray) ++ t121) ++ t122) ++ t123).size + t124.size ≤ 9223372036854775807 then ((super_put.f k a0_4 2).bind fun t125 => (if (((((⟨#[85, 77, 66, 49]⟩ : ByteArray) ++ t121) ++ t122) ++ t123) ++ t124).size + t125.size ≤ 9223372036854775807 then ((super_put.f k a0_5 1).bind fun t126 => (if ((((((⟨#[85, 77, 66, 49]⟩ : ByteArray) ++ t121) ++ t122) ++ t123) ++ t124) ++ t125).size + t126.size ≤ 9223372036854775807 then ((strings_Repeat.f (⟨#[0]⟩ : ByteArray) 41).bind fun t127 => (if (((((((⟨#[85, 77, 66, 49]⟩ : ByteArray) ++ t121) ++ t122) ++ t123) ++ t124) ++ t125) ++ t126).size + t127.size ≤ 9223372036854775807 then ((sum_Of.f ((((((((⟨#[85, 77, 66, 49]⟩ : ByteArray) ++ t121) ++ t122) ++ t123) ++ t124) ++ t125) ++ t126) ++ t127)).bind fun t128 => ((sum_Put.f t128).bind fun t129 => (if ((((((((⟨#[85, 77, 66, 49]⟩ : ByteArray) ++ t121) ++ t122) ++ t123) ++ t124) ++ t125) ++ t126) ++ t127).size + t129.size ≤ 9223372036854775807 then (some (((((((((⟨#[85, 77, 66, 49]⟩ : ByteArray) ++ t121) ++ t122) ++ t123) ++ t124) ++ t125) ++ t126) ++ t127) ++ t129)) else (none)))) else (none))) else (none))) else (none))) else (none))) else (none))) else (none)) = some r := H
    have A4 := Aside0.mk A40
    clear A40
    by_cases c5 : ((⟨#[85, 77, 66, 49]⟩ : ByteArray) ++ t121).size + t122.size ≤ 9223372036854775807
    · rw [if_pos c5] at H
      have c5b0 := eq_true c5
      have c5b1 : decide (((⟨#[85, 77, 66, 49]⟩ : ByteArray) ++ t121).size + t122.size ≤ 9223372036854775807) = true := decide_eq_true c5
      try have c5b2 : (9223372036854775807 < ((⟨#[85, 77, 66, 49]⟩ : ByteArray) ++ t121).size + t122.size) = False := eq_false (Nat.not_lt.2 c5)
      try have c5b2s_ := c5b2
      try simp only [ByteArray.size_append, (show (⟨#[85, 77, 66, 49]⟩ : ByteArray).size = 4 from rfl)] at c5b2s_
      replace H := Option.bind_eq_some_iff.mp H
      obtain ⟨t123, A60, H⟩ := H
      replace H : (if (((⟨#[85, 77, 66, 49]⟩ : ByteArray) ++ t121) ++ t122).size + t123.size ≤ 9223372036854775807 then ((super_put.f k a0_3 2).bind fun t124 => (if ((((⟨#[85, 77, 66, 49]⟩ : ByteArray) ++ t121) ++ t122) ++ t123).size + t124.size ≤ 9223372036854775807 then ((super_put.f k a0_4 2).bind fun t125 => (if (((((⟨#[85, 77, 66, 49]⟩ : ByteArray) ++ t121) ++ t122) ++ t123) ++ t124).size + t125.size ≤ 9223372036854775807 then ((super_put.f k a0_5 1).bind fun t126 => (if ((((((⟨#[85, 77, 66, 49]⟩ : ByteArray) ++ t121) ++ t122) ++ t123) ++ t124) ++ t125).size + t126.size ≤ 9223372036854775807 then ((strings_Repeat.f (⟨#[0]⟩ : ByteArray) 41).bind fun t127 => (if (((((((⟨#[85, 77, 66, 49]⟩ : ByteArray) ++ t121) ++ t122) ++ t123) ++ t124) ++ t125) ++ t126).size + t127.size ≤ 9223372036854775807 then ((sum_Of.f ((((((((⟨#[85, 77, 66, 49]⟩ : ByteArray) ++ t121) ++ t122) ++ t123) ++ t124) ++ t125) ++ t126) ++ t127)).bind fun t128 => ((sum_Put.f t128).bind fun t129 => (if ((((((((⟨#[85, 77, 66, 49]⟩ : ByteArray) ++ t121) ++ t122) ++ t123) ++ t124) ++ t125) ++ t126) ++ t127).size + t129.size ≤ 9223372036854775807 then (some (((((((((⟨#[85, 77, 66, 49]⟩ : ByteArray) ++ t121) ++ t122) ++ t123) ++ t124) ++ t125) ++ t126) ++ t127) ++ t129)) else (none)))) else (none))) else (none))) else (none))) else (none))) else (none)) = some r := H
      have A6 := Aside0.mk A60
      clear A60
      by_cases c7 : (((⟨#[85, 77, 66, 49]⟩ : ByteArray) ++ t121) ++ t122).size + t123.size ≤ 9223372036854775807
      · rw [if_pos c7] at H
        have c7b0 := eq_true c7
        have c7b1 : decide ((((⟨#[85, 77, 66, 49]⟩ : ByteArray) ++ t121) ++ t122).size + t123.size ≤ 9223372036854775807) = true := decide_eq_true c7
        try have c7b2 : (9223372036854775807 < (((⟨#[85, 77, 66, 49]⟩ : ByteArray) ++ t121) ++ t122).size + t123.size) = False := eq_false (Nat.not_lt.2 c7)
        try have c7b2s_ := c7b2
        try simp only [ByteArray.size_append, (show (⟨#[85, 77, 66, 49]⟩ : ByteArray).size = 4 from rfl)] at c7b2s_
        replace H := Option.bind_eq_some_iff.mp H
        obtain ⟨t124, A80, H⟩ := H
        replace H : (if ((((⟨#[85, 77, 66, 49]⟩ : ByteArray) ++ t121) ++ t122) ++ t123).size + t124.size ≤ 9223372036854775807 then ((super_put.f k a0_4 2).bind fun t125 => (if (((((⟨#[85, 77, 66, 49]⟩ : ByteArray) ++ t121) ++ t122) ++ t123) ++ t124).size + t125.size ≤ 9223372036854775807 then ((super_put.f k a0_5 1).bind fun t126 => (if ((((((⟨#[85, 77, 66, 49]⟩ : ByteArray) ++ t121) ++ t122) ++ t123) ++ t124) ++ t125).size + t126.size ≤ 9223372036854775807 then ((strings_Repeat.f (⟨#[0]⟩ : ByteArray) 41).bind fun t127 => (if (((((((⟨#[85, 77, 66, 49]⟩ : ByteArray) ++ t121) ++ t122) ++ t123) ++ t124) ++ t125) ++ t126).size + t127.size ≤ 9223372036854775807 then ((sum_Of.f ((((((((⟨#[85, 77, 66, 49]⟩ : ByteArray) ++ t121) ++ t122) ++ t123) ++ t124) ++ t125) ++ t126) ++ t127)).bind fun t128 => ((sum_Put.f t128).bind fun t129 => (if ((((((((⟨#[85, 77, 66, 49]⟩ : ByteArray) ++ t121) ++ t122) ++ t123) ++ t124) ++ t125) ++ t126) ++ t127).size + t129.size ≤ 9223372036854775807 then (some (((((((((⟨#[85, 77, 66, 49]⟩ : ByteArray) ++ t121) ++ t122) ++ t123) ++ t124) ++ t125) ++ t126) ++ t127) ++ t129)) else (none)))) else (none))) else (none))) else (none))) else (none)) = some r := H
        have A8 := Aside0.mk A80
        clear A80
        by_cases c9 : ((((⟨#[85, 77, 66, 49]⟩ : ByteArray) ++ t121) ++ t122) ++ t123).size + t124.size ≤ 9223372036854775807
        · rw [if_pos c9] at H
          have c9b0 := eq_true c9
          have c9b1 : decide (((((⟨#[85, 77, 66, 49]⟩ : ByteArray) ++ t121) ++ t122) ++ t123).size + t124.size ≤ 9223372036854775807) = true := decide_eq_true c9
          try have c9b2 : (9223372036854775807 < ((((⟨#[85, 77, 66, 49]⟩ : ByteArray) ++ t121) ++ t122) ++ t123).size + t124.size) = False := eq_false (Nat.not_lt.2 c9)
          try have c9b2s_ := c9b2
          try simp only [ByteArray.size_append, (show (⟨#[85, 77, 66, 49]⟩ : ByteArray).size = 4 from rfl)] at c9b2s_
          replace H := Option.bind_eq_some_iff.mp H
          obtain ⟨t125, A100, H⟩ := H
          replace H : (if (((((⟨#[85, 77, 66, 49]⟩ : ByteArray) ++ t121) ++ t122) ++ t123) ++ t124).size + t125.size ≤ 9223372036854775807 then ((super_put.f k a0_5 1).bind fun t126 => (if ((((((⟨#[85, 77, 66, 49]⟩ : ByteArray) ++ t121) ++ t122) ++ t123) ++ t124) ++ t125).size + t126.size ≤ 9223372036854775807 then ((strings_Repeat.f (⟨#[0]⟩ : ByteArray) 41).bind fun t127 => (if (((((((⟨#[85, 77, 66, 49]⟩ : ByteArray) ++ t121) ++ t122) ++ t123) ++ t124) ++ t125) ++ t126).size + t127.size ≤ 9223372036854775807 then ((sum_Of.f ((((((((⟨#[85, 77, 66, 49]⟩ : ByteArray) ++ t121) ++ t122) ++ t123) ++ t124) ++ t125) ++ t126) ++ t127)).bind fun t128 => ((sum_Put.f t128).bind fun t129 => (if ((((((((⟨#[85, 77, 66, 49]⟩ : ByteArray) ++ t121) ++ t122) ++ t123) ++ t124) ++ t125) ++ t126) ++ t127).size + t129.size ≤ 9223372036854775807 then (some (((((((((⟨#[85, 77, 66, 49]⟩ : ByteArray) ++ t121) ++ t122) ++ t123) ++ t124) ++ t125) ++ t126) ++ t127) ++ t129)) else (none)))) else (none))) else (none))) else (none)) = some r := H
          have A10 := Aside0.mk A100
          clear A100
          by_cases c11 : (((((⟨#[85, 77, 66, 49]⟩ : ByteArray) ++ t121) ++ t122) ++ t123) ++ t124).size + t125.size ≤ 9223372036854775807
          · rw [if_pos c11] at H
            have c11b0 := eq_true c11
            have c11b1 : decide ((((((⟨#[85, 77, 66, 49]⟩ : ByteArray) ++ t121) ++ t122) ++ t123) ++ t124).size + t125.size ≤ 9223372036854775807) = true := decide_eq_true c11
            try have c11b2 : (9223372036854775807 < (((((⟨#[85, 77, 66, 49]⟩ : ByteArray) ++ t121) ++ t122) ++ t123) ++ t124).size + t125.size) = False := eq_false (Nat.not_lt.2 c11)
            try have c11b2s_ := c11b2
            try simp only [ByteArray.size_append, (show (⟨#[85, 77, 66, 49]⟩ : ByteArray).size = 4 from rfl)] at c11b2s_
            replace H := Option.bind_eq_some_iff.mp H
            obtain ⟨t126, A120, H⟩ := H
            replace H : (if ((((((⟨#[85, 77, 66, 49]⟩ : ByteArray) ++ t121) ++ t122) ++ t123) ++ t124) ++ t125).size + t126.size ≤ 9223372036854775807 then ((strings_Repeat.f (⟨#[0]⟩ : ByteArray) 41).bind fun t127 => (if (((((((⟨#[85, 77, 66, 49]⟩ : ByteArray) ++ t121) ++ t122) ++ t123) ++ t124) ++ t125) ++ t126).size + t127.size ≤ 9223372036854775807 then ((sum_Of.f ((((((((⟨#[85, 77, 66, 49]⟩ : ByteArray) ++ t121) ++ t122) ++ t123) ++ t124) ++ t125) ++ t126) ++ t127)).bind fun t128 => ((sum_Put.f t128).bind fun t129 => (if ((((((((⟨#[85, 77, 66, 49]⟩ : ByteArray) ++ t121) ++ t122) ++ t123) ++ t124) ++ t125) ++ t126) ++ t127).size + t129.size ≤ 9223372036854775807 then (some (((((((((⟨#[85, 77, 66, 49]⟩ : ByteArray) ++ t121) ++ t122) ++ t123) ++ t124) ++ t125) ++ t126) ++ t127) ++ t129)) else (none)))) else (none))) else (none)) = some r := H
            have A12 := Aside0.mk A120
            clear A120
            by_cases c13 : ((((((⟨#[85, 77, 66, 49]⟩ : ByteArray) ++ t121) ++ t122) ++ t123) ++ t124) ++ t125).size + t126.size ≤ 9223372036854775807
            · rw [if_pos c13] at H
              have c13b0 := eq_true c13
              have c13b1 : decide (((((((⟨#[85, 77, 66, 49]⟩ : ByteArray) ++ t121) ++ t122) ++ t123) ++ t124) ++ t125).size + t126.size ≤ 9223372036854775807) = true := decide_eq_true c13
              try have c13b2 : (9223372036854775807 < ((((((⟨#[85, 77, 66, 49]⟩ : ByteArray) ++ t121) ++ t122) ++ t123) ++ t124) ++ t125).size + t126.size) = False := eq_false (Nat.not_lt.2 c13)
              try have c13b2s_ := c13b2
              try simp only [ByteArray.size_append, (show (⟨#[85, 77, 66, 49]⟩ : ByteArray).size = 4 from rfl)] at c13b2s_
              replace H := Option.bind_eq_some_iff.mp H
              obtain ⟨t127, A140, H⟩ := H
              replace H : (if (((((((⟨#[85, 77, 66, 49]⟩ : ByteArray) ++ t121) ++ t122) ++ t123) ++ t124) ++ t125) ++ t126).size + t127.size ≤ 9223372036854775807 then ((sum_Of.f ((((((((⟨#[85, 77, 66, 49]⟩ : ByteArray) ++ t121) ++ t122) ++ t123) ++ t124) ++ t125) ++ t126) ++ t127)).bind fun t128 => ((sum_Put.f t128).bind fun t129 => (if ((((((((⟨#[85, 77, 66, 49]⟩ : ByteArray) ++ t121) ++ t122) ++ t123) ++ t124) ++ t125) ++ t126) ++ t127).size + t129.size ≤ 9223372036854775807 then (some (((((((((⟨#[85, 77, 66, 49]⟩ : ByteArray) ++ t121) ++ t122) ++ t123) ++ t124) ++ t125) ++ t126) ++ t127) ++ t129)) else (none)))) else (none)) = some r := H
              have A14 := Aside0.mk A140
              clear A140
              by_cases c15 : (((((((⟨#[85, 77, 66, 49]⟩ : ByteArray) ++ t121) ++ t122) ++ t123) ++ t124) ++ t125) ++ t126).size + t127.size ≤ 9223372036854775807
              · rw [if_pos c15] at H
                have c15b0 := eq_true c15
                have c15b1 : decide ((((((((⟨#[85, 77, 66, 49]⟩ : ByteArray) ++ t121) ++ t122) ++ t123) ++ t124) ++ t125) ++ t126).size + t127.size ≤ 9223372036854775807) = true := decide_eq_true c15
                try have c15b2 : (9223372036854775807 < (((((((⟨#[85, 77, 66, 49]⟩ : ByteArray) ++ t121) ++ t122) ++ t123) ++ t124) ++ t125) ++ t126).size + t127.size) = False := eq_false (Nat.not_lt.2 c15)
                try have c15b2s_ := c15b2
                try simp only [ByteArray.size_append, (show (⟨#[85, 77, 66, 49]⟩ : ByteArray).size = 4 from rfl)] at c15b2s_
                replace H := Option.bind_eq_some_iff.mp H
                obtain ⟨t128, A160, H⟩ := H
                replace H : ((sum_Put.f t128).bind fun t129 => (if ((((((((⟨#[85, 77, 66, 49]⟩ : ByteArray) ++ t121) ++ t122) ++ t123) ++ t124) ++ t125) ++ t126) ++ t127).size + t129.size ≤ 9223372036854775807 then (some (((((((((⟨#[85, 77, 66, 49]⟩ : ByteArray) ++ t121) ++ t122) ++ t123) ++ t124) ++ t125) ++ t126) ++ t127) ++ t129)) else (none))) = some r := H
                have A16 := Aside0.mk A160
                clear A160
                replace H := Option.bind_eq_some_iff.mp H
                obtain ⟨t129, A170, H⟩ := H
                replace H : (if ((((((((⟨#[85, 77, 66, 49]⟩ : ByteArray) ++ t121) ++ t122) ++ t123) ++ t124) ++ t125) ++ t126) ++ t127).size + t129.size ≤ 9223372036854775807 then (some (((((((((⟨#[85, 77, 66, 49]⟩ : ByteArray) ++ t121) ++ t122) ++ t123) ++ t124) ++ t125) ++ t126) ++ t127) ++ t129)) else (none)) = some r := H
                have A17 := Aside0.mk A170
                clear A170
                by_cases c18 : ((((((((⟨#[85, 77, 66, 49]⟩ : ByteArray) ++ t121) ++ t122) ++ t123) ++ t124) ++ t125) ++ t126) ++ t127).size + t129.size ≤ 9223372036854775807
                · rw [if_pos c18] at H
                  have c18b0 := eq_true c18
                  have c18b1 : decide (((((((((⟨#[85, 77, 66, 49]⟩ : ByteArray) ++ t121) ++ t122) ++ t123) ++ t124) ++ t125) ++ t126) ++ t127).size + t129.size ≤ 9223372036854775807) = true := decide_eq_true c18
                  try have c18b2 : (9223372036854775807 < ((((((((⟨#[85, 77, 66, 49]⟩ : ByteArray) ++ t121) ++ t122) ++ t123) ++ t124) ++ t125) ++ t126) ++ t127).size + t129.size) = False := eq_false (Nat.not_lt.2 c18)
                  try have c18b2s_ := c18b2
                  try simp only [ByteArray.size_append, (show (⟨#[85, 77, 66, 49]⟩ : ByteArray).size = 4 from rfl)] at c18b2s_
                  obtain rfl := Option.some.inj H
                  go_enter Tryd.func37, Tryd.ntmps37
                  try go_wp2_with (first | ((with_reducible refine gate_dst (N := 1) rfl ?_); refine box_event ?hg (N := 1) ?hd (cs := #[.int .i64 a0_0, .int .i64 a0_1, .int .i64 a0_2, .int .i64 a0_3, .int .i64 a0_4, .int .i64 a0_5]) (t := 43) ?hr ?_; (case hd => rfl); (case hg => rfl); (case hr => first | (go_simp; done) | (go_simp; rfl)); intro gb120 hg w19 hbox hb; have n0_ := Aside0.mk (below_step (by repeat (first | (with_reducible first | exact HB.out | apply below_alloc | apply pw_below_drewN | apply below_drew1) | exact HB.out)) hb); have n1_ := Aside0.mk (hbox); have n2_ := Aside0.mk ((by rw [hg]; exact (below_size (by repeat (first | (with_reducible first | exact HB.out | apply below_alloc | apply pw_below_drewN | apply below_drew1) | exact HB.out))) : w.heap.size ≤ gb120)); have n3_ := Aside0.mk ((by rw [hg]; exact (below_size (by repeat (first | (with_reducible first | exact HB.out | apply below_alloc | apply pw_below_drewN | apply below_drew1) | exact HB.out))) : w.heap.size ≤ gb120)); clear HB; have HB := n0_; have BK120 := n1_; have GW120 := n2_; have GE120 := n3_; clear n0_ n1_ n2_ n3_; clear hb hbox hg))
                  have n0_ := Aside0.mk (blk_drew BK120.out)
                  have n1_ := Aside0.mk (below_drew1 HB.out)
                  clear BK120
                  clear HB
                  have BK120 := n0_
                  have HB := n1_
                  clear n0_ n1_
                  refine start_ (n := 25) (S := fun w' => w'.cell? ⟨gb120, 0, none⟩ = some (.int .i64 a0_0) ∧ w'.cell? ⟨gb120, 1, none⟩ = some (.int .i64 a0_1) ∧ w'.cell? ⟨gb120, 2, none⟩ = some (.int .i64 a0_2) ∧ w'.cell? ⟨gb120, 3, none⟩ = some (.int .i64 a0_3) ∧ w'.cell? ⟨gb120, 4, none⟩ = some (.int .i64 a0_4) ∧ w'.cell? ⟨gb120, 5, none⟩ = some (.int .i64 a0_5)) (ds := []) #[false, false, false, false, false, false, false, false, false, false, false, false, false, false, false, false, false, false, false, false, false, false, false, false, false] (by kernel_rfl) rfl rfl ⟨(blk_cell BK120.out 0).trans rfl, (blk_cell BK120.out 1).trans rfl, (blk_cell BK120.out 2).trans rfl, (blk_cell BK120.out 3).trans rfl, (blk_cell BK120.out 4).trans rfl, (blk_cell BK120.out 5).trans rfl⟩ (fun hHeld => ?_); refine with_tabW super_sector.tab1 super_sector.bits1 (fun HT_ HW_ => ?_)
                  generalize w19.drew = w20 at BK120 HB hHeld ⊢
                  refine pure_ (i := 0) (N := some 4) (v := ?_) (a' := ?_) #[true, false, false, false, false, false, false, false, false, false, false, false, false, false, false, false, false, false, false, false, false, false, false, false, false] rfl rfl (any_of HT_.out (by kernel_rfl)) (fun _ _ _ h => h) (Or.inl ⟨by rfl, ?_⟩) ?_ ?_
                  rotate_left
                  · intro w'
                    go_simp
                    with_reducible rfl
                  rotate_left
                  · simp only [Act.put, List.setIfInBounds_toArray, List.set_cons_zero, List.set_cons_succ, i64_w, i32_w]
                    rfl
                  refine pure_ (i := 4) (N := some 8) (v := ?_) (a' := ?_) #[true, false, false, false, true, false, false, false, false, false, false, false, false, false, false, false, false, false, false, false, false, false, false, false, false] rfl rfl (any_of HT_.out (by kernel_rfl)) (fun _ _ _ h => h) (Or.inl ⟨by rfl, ?_⟩) ?_ ?_
                  rotate_left
                  · intro w'
                    go_simp
                    with_reducible rfl
                  rotate_left
                  · simp only [Act.put, List.setIfInBounds_toArray, List.set_cons_zero, List.set_cons_succ, i64_w, i32_w]
                    rfl
                  refine pure_ (i := 8) (N := some 12) (v := ?_) (a' := ?_) #[true, false, false, false, true, false, false, false, true, false, false, false, false, false, false, false, false, false, false, false, false, false, false, false, false] rfl rfl (any_of HT_.out (by kernel_rfl)) (fun _ _ _ h => h) (Or.inl ⟨by rfl, ?_⟩) ?_ ?_
                  rotate_left
                  · intro w'
                    go_simp
                    with_reducible rfl
                  rotate_left
                  · simp only [Act.put, List.setIfInBounds_toArray, List.set_cons_zero, List.set_cons_succ, i64_w, i32_w]
                    rfl
                  refine pure_ (i := 12) (N := some 16) (v := ?_) (a' := ?_) #[true, false, false, false, true, false, false, false, true, false, false, false, true, false, false, false, false, false, false, false, false, false, false, false, false] rfl rfl (any_of HT_.out (by kernel_rfl)) (fun _ _ _ h => h) (Or.inl ⟨by rfl, ?_⟩) ?_ ?_
                  rotate_left
                  · intro w'
                    go_simp
                    with_reducible rfl
                  rotate_left
                  · simp only [Act.put, List.setIfInBounds_toArray, List.set_cons_zero, List.set_cons_succ, i64_w, i32_w]
                    rfl
                  refine pure_ (i := 16) (N := some 20) (v := ?_) (a' := ?_) #[true, false, false, false, true, false, false, false, true, false, false, false, true, false, false, false, true, false, false, false, false, false, false, false, false] rfl rfl (any_of HT_.out (by kernel_rfl)) (fun _ _ _ h => h) (Or.inl ⟨by rfl, ?_⟩) ?_ ?_
                  rotate_left
                  · intro w'
                    go_simp
                    with_reducible rfl
                  rotate_left
                  · simp only [Act.put, List.setIfInBounds_toArray, List.set_cons_zero, List.set_cons_succ, i64_w, i32_w]
                    rfl
                  refine pure_ (i := 20) (N := some 24) (v := ?_) (a' := ?_) #[true, false, false, false, true, false, false, false, true, false, false, false, true, false, false, false, true, false, false, false, true, false, false, false, false] rfl rfl (any_of HT_.out (by kernel_rfl)) (fun _ _ _ h => h) (Or.inl ⟨by rfl, ?_⟩) ?_ ?_
                  rotate_left
                  · intro w'
                    go_simp
                    with_reducible rfl
                  rotate_left
                  · simp only [Act.put, List.setIfInBounds_toArray, List.set_cons_zero, List.set_cons_succ, i64_w, i32_w]
                    rfl
                  refine take_ (i := 1) (N := some 5) (v := ?_) (a' := ?_) #[true, true, false, false, true, false, false, false, true, false, false, false, true, false, false, false, true, false, false, false, true, false, false, false, false] rfl rfl (take_ofW HT_.out HW_.out (by kernel_rfl)) (fun _ _ _ h => h) (Or.inl ⟨by rfl, ?_⟩) hHeld ?_ ?_
                  rotate_left
                  · rintro w' ⟨s0, s1, s2, s3, s4, s5⟩
                    go_simp
                    with_reducible rfl
                  rotate_left
                  · simp only [Act.put, List.setIfInBounds_toArray, List.set_cons_zero, List.set_cons_succ, i64_w, i32_w]
                    rfl
                  refine take_ (i := 5) (N := some 9) (v := ?_) (a' := ?_) #[true, true, false, false, true, true, false, false, true, false, false, false, true, false, false, false, true, false, false, false, true, false, false, false, false] rfl rfl (take_ofW HT_.out HW_.out (by kernel_rfl)) (fun _ _ _ h => h) (Or.inl ⟨by rfl, ?_⟩) hHeld ?_ ?_
                  rotate_left
                  · rintro w' ⟨s0, s1, s2, s3, s4, s5⟩
                    go_simp
                    with_reducible rfl
                  rotate_left
                  · simp only [Act.put, List.setIfInBounds_toArray, List.set_cons_zero, List.set_cons_succ, i64_w, i32_w]
                    rfl
                  refine take_ (i := 9) (N := some 13) (v := ?_) (a' := ?_) #[true, true, false, false, true, true, false, false, true, true, false, false, true, false, false, false, true, false, false, false, true, false, false, false, false] rfl rfl (take_ofW HT_.out HW_.out (by kernel_rfl)) (fun _ _ _ h => h) (Or.inl ⟨by rfl, ?_⟩) hHeld ?_ ?_
                  rotate_left
                  · rintro w' ⟨s0, s1, s2, s3, s4, s5⟩
                    go_simp
                    with_reducible rfl
                  rotate_left
                  · simp only [Act.put, List.setIfInBounds_toArray, List.set_cons_zero, List.set_cons_succ, i64_w, i32_w]
                    rfl
                  refine take_ (i := 13) (N := some 17) (v := ?_) (a' := ?_) #[true, true, false, false, true, true, false, false, true, true, false, false, true, true, false, false, true, false, false, false, true, false, false, false, false] rfl rfl (take_ofW HT_.out HW_.out (by kernel_rfl)) (fun _ _ _ h => h) (Or.inl ⟨by rfl, ?_⟩) hHeld ?_ ?_
                  rotate_left
                  · rintro w' ⟨s0, s1, s2, s3, s4, s5⟩
                    go_simp
                    with_reducible rfl
                  rotate_left
                  · simp only [Act.put, List.setIfInBounds_toArray, List.set_cons_zero, List.set_cons_succ, i64_w, i32_w]
                    rfl
                  refine take_ (i := 17) (N := some 21) (v := ?_) (a' := ?_) #[true, true, false, false, true, true, false, false, true, true, false, false, true, true, false, false, true, true, false, false, true, false, false, false, false] rfl rfl (take_ofW HT_.out HW_.out (by kernel_rfl)) (fun _ _ _ h => h) (Or.inl ⟨by rfl, ?_⟩) hHeld ?_ ?_
                  rotate_left
                  · rintro w' ⟨s0, s1, s2, s3, s4, s5⟩
                    go_simp
                    with_reducible rfl
                  rotate_left
                  · simp only [Act.put, List.setIfInBounds_toArray, List.set_cons_zero, List.set_cons_succ, i64_w, i32_w]
                    rfl
                  refine take_ (i := 21) (N := some 25) (v := ?_) (a' := ?_) #[true, true, false, false, true, true, false, false, true, true, false, false, true, true, false, false, true, true, false, false, true, true, false, false, false] rfl rfl (take_ofW HT_.out HW_.out (by kernel_rfl)) (fun _ _ _ h => h) (Or.inl ⟨by rfl, ?_⟩) hHeld ?_ ?_
                  rotate_left
                  · rintro w' ⟨s0, s1, s2, s3, s4, s5⟩
                    go_simp
                    with_reducible rfl
                  rotate_left
                  · simp only [Act.put, List.setIfInBounds_toArray, List.set_cons_zero, List.set_cons_succ, i64_w, i32_w]
                    rfl
                  refine one_ (i := 2) (N := some 6) #[true, true, true, false, true, true, false, false, true, true, false, false, true, true, false, false, true, true, false, false, true, true, false, false, false] rfl rfl (one_of HT_.out (by kernel_rfl)) (by decide) (fun K hK => ?_)
                  refine goes_ Tryd.func50 (by kernel_rfl) rfl #[.int .i64 a0_0, .int .i64 4] (by rfl) rfl rfl (by (try simp only [List.map_toArray, List.map_cons, List.map_nil]); first | done | rfl | (simp only [List.length_drop, List.length_take]; rfl)) ?_
                  with_reducible refine (super_put.calls k a0_0 4 t121 _ A2.out).mono ?_
                  rintro e w21 ⟨rfl, hb⟩
                  refine ⟨_, rfl, ?_⟩
                  have n0_ := Aside0.mk (blk_below (g := gb120) (o := .cells #[.int .i64 a0_0, .int .i64 a0_1, .int .i64 a0_2, .int .i64 a0_3, .int .i64 a0_4, .int .i64 a0_5] 43 (0, 0)) (by (with_reducible repeat (first | refine blk_drewN ?_ _ | refine blk_drew ?_ | refine blk_alloc ?_ _)); exact BK120.out) hb)
                  have n1_ := Aside0.mk (below_step (by repeat (first | (with_reducible first | exact HB.out | apply below_alloc | apply pw_below_drewN | apply below_drew1 | refine below_set ?_ GE120.out) | exact HB.out)) hb)
                  clear BK120
                  clear HB
                  have BK120 := n0_
                  have HB := n1_
                  clear n0_ n1_
                  (try clear hb)
                  (try clear hb2)
                  (try clear hk)
                  (try clear hi)
                  refine hK.out _ _ ⟨(blk_cell BK120.out 0).trans rfl, (blk_cell BK120.out 1).trans rfl, (blk_cell BK120.out 2).trans rfl, (blk_cell BK120.out 3).trans rfl, (blk_cell BK120.out 4).trans rfl, (blk_cell BK120.out 5).trans rfl⟩ (fun hHeld => ?_)
                  clear hK K
                  refine norm_ (a' := ?_) ?_ ?_
                  rotate_left
                  · show Act.put _ (some 6) _ = _
                    simp only [Act.put, List.setIfInBounds_toArray, List.set_cons_zero, List.set_cons_succ, i64_w, i32_w]
                    rfl
                  refine pure_ (i := 3) (N := some 7) (v := ?_) (a' := ?_) #[true, true, true, true, true, true, false, false, true, true, false, false, true, true, false, false, true, true, false, false, true, true, false, false, false] rfl rfl (any_of HT_.out (by kernel_rfl)) (fun _ _ _ h => h) (Or.inl ⟨by rfl, ?_⟩) ?_ ?_
                  rotate_left
                  · intro w'
                    go_simp
                    with_reducible rfl
                  rotate_left
                  · simp only [Act.put, List.setIfInBounds_toArray, List.set_cons_zero, List.set_cons_succ, i64_w, i32_w]
                    rfl
                  refine one_ (i := 6) (N := some 10) #[true, true, true, true, true, true, true, false, true, true, false, false, true, true, false, false, true, true, false, false, true, true, false, false, false] rfl rfl (one_of HT_.out (by kernel_rfl)) (by decide) (fun K hK => ?_)
                  refine goes_ Tryd.func50 (by kernel_rfl) rfl #[.int .i64 a0_1, .int .i64 4] (by rfl) rfl rfl (by (try simp only [List.map_toArray, List.map_cons, List.map_nil]); first | done | rfl | (simp only [List.length_drop, List.length_take]; rfl)) ?_
                  with_reducible refine (super_put.calls k a0_1 4 t122 _ A4.out).mono ?_
                  rintro e w22 ⟨rfl, hb⟩
                  refine ⟨_, rfl, ?_⟩
                  have n0_ := Aside0.mk (blk_below (g := gb120) (o := .cells #[.int .i64 a0_0, .int .i64 a0_1, .int .i64 a0_2, .int .i64 a0_3, .int .i64 a0_4, .int .i64 a0_5] 43 (0, 0)) (by (with_reducible repeat (first | refine blk_drewN ?_ _ | refine blk_drew ?_ | refine blk_alloc ?_ _)); exact BK120.out) hb)
                  have n1_ := Aside0.mk (below_step (by repeat (first | (with_reducible first | exact HB.out | apply below_alloc | apply pw_below_drewN | apply below_drew1 | refine below_set ?_ GE120.out) | exact HB.out)) hb)
                  clear BK120
                  clear HB
                  have BK120 := n0_
                  have HB := n1_
                  clear n0_ n1_
                  (try clear hb)
                  (try clear hb2)
                  (try clear hk)
                  (try clear hi)
                  refine hK.out _ _ ⟨(blk_cell BK120.out 0).trans rfl, (blk_cell BK120.out 1).trans rfl, (blk_cell BK120.out 2).trans rfl, (blk_cell BK120.out 3).trans rfl, (blk_cell BK120.out 4).trans rfl, (blk_cell BK120.out 5).trans rfl⟩ (fun hHeld => ?_)
                  clear hK K
                  refine norm_ (a' := ?_) ?_ ?_
                  rotate_left
                  · show Act.put _ (some 10) _ = _
                    simp only [Act.put, List.setIfInBounds_toArray, List.set_cons_zero, List.set_cons_succ, i64_w, i32_w]
                    rfl
                  refine pure_ (i := 7) (N := some 11) (v := ?_) (a' := ?_) #[true, true, true, true, true, true, true, true, true, true, false, false, true, true, false, false, true, true, false, false, true, true, false, false, false] rfl rfl (any_of HT_.out (by kernel_rfl)) (fun _ _ _ h => h) (Or.inl ⟨by rfl, ?_⟩) ?_ ?_
                  rotate_left
                  · intro w'
                    go_simp
                    with_reducible rfl
                  rotate_left
                  · simp only [Act.put, List.setIfInBounds_toArray, List.set_cons_zero, List.set_cons_succ, i64_w, i32_w]
                    rfl
                  refine one_ (i := 10) (N := some 14) #[true, true, true, true, true, true, true, true, true, true, true, false, true, true, false, false, true, true, false, false, true, true, false, false, false] rfl rfl (one_of HT_.out (by kernel_rfl)) (by decide) (fun K hK => ?_)
                  refine goes_ Tryd.func50 (by kernel_rfl) rfl #[.int .i64 a0_2, .int .i64 2] (by rfl) rfl rfl (by (try simp only [List.map_toArray, List.map_cons, List.map_nil]); first | done | rfl | (simp only [List.length_drop, List.length_take]; rfl)) ?_
                  with_reducible refine (super_put.calls k a0_2 2 t123 _ A6.out).mono ?_
                  rintro e w23 ⟨rfl, hb⟩
                  refine ⟨_, rfl, ?_⟩
                  have n0_ := Aside0.mk (blk_below (g := gb120) (o := .cells #[.int .i64 a0_0, .int .i64 a0_1, .int .i64 a0_2, .int .i64 a0_3, .int .i64 a0_4, .int .i64 a0_5] 43 (0, 0)) (by (with_reducible repeat (first | refine blk_drewN ?_ _ | refine blk_drew ?_ | refine blk_alloc ?_ _)); exact BK120.out) hb)
                  have n1_ := Aside0.mk (below_step (by repeat (first | (with_reducible first | exact HB.out | apply below_alloc | apply pw_below_drewN | apply below_drew1 | refine below_set ?_ GE120.out) | exact HB.out)) hb)
                  clear BK120
                  clear HB
                  have BK120 := n0_
                  have HB := n1_
                  clear n0_ n1_
                  (try clear hb)
                  (try clear hb2)
                  (try clear hk)
                  (try clear hi)
                  refine hK.out _ _ ⟨(blk_cell BK120.out 0).trans rfl, (blk_cell BK120.out 1).trans rfl, (blk_cell BK120.out 2).trans rfl, (blk_cell BK120.out 3).trans rfl, (blk_cell BK120.out 4).trans rfl, (blk_cell BK120.out 5).trans rfl⟩ (fun hHeld => ?_)
                  clear hK K
                  refine norm_ (a' := ?_) ?_ ?_
                  rotate_left
                  · show Act.put _ (some 14) _ = _
                    simp only [Act.put, List.setIfInBounds_toArray, List.set_cons_zero, List.set_cons_succ, i64_w, i32_w]
                    rfl
                  refine pure_ (i := 11) (N := some 15) (v := ?_) (a' := ?_) #[true, true, true, true, true, true, true, true, true, true, true, true, true, true, false, false, true, true, false, false, true, true, false, false, false] rfl rfl (any_of HT_.out (by kernel_rfl)) (fun _ _ _ h => h) (Or.inl ⟨by rfl, ?_⟩) ?_ ?_
                  rotate_left
                  · intro w'
                    go_simp
                    with_reducible rfl
                  rotate_left
                  · simp only [Act.put, List.setIfInBounds_toArray, List.set_cons_zero, List.set_cons_succ, i64_w, i32_w]
                    rfl
                  refine one_ (i := 14) (N := some 18) #[true, true, true, true, true, true, true, true, true, true, true, true, true, true, true, false, true, true, false, false, true, true, false, false, false] rfl rfl (one_of HT_.out (by kernel_rfl)) (by decide) (fun K hK => ?_)
                  refine goes_ Tryd.func50 (by kernel_rfl) rfl #[.int .i64 a0_3, .int .i64 2] (by rfl) rfl rfl (by (try simp only [List.map_toArray, List.map_cons, List.map_nil]); first | done | rfl | (simp only [List.length_drop, List.length_take]; rfl)) ?_
                  with_reducible refine (super_put.calls k a0_3 2 t124 _ A8.out).mono ?_
                  rintro e w24 ⟨rfl, hb⟩
                  refine ⟨_, rfl, ?_⟩
                  have n0_ := Aside0.mk (blk_below (g := gb120) (o := .cells #[.int .i64 a0_0, .int .i64 a0_1, .int .i64 a0_2, .int .i64 a0_3, .int .i64 a0_4, .int .i64 a0_5] 43 (0, 0)) (by (with_reducible repeat (first | refine blk_drewN ?_ _ | refine blk_drew ?_ | refine blk_alloc ?_ _)); exact BK120.out) hb)
                  have n1_ := Aside0.mk (below_step (by repeat (first | (with_reducible first | exact HB.out | apply below_alloc | apply pw_below_drewN | apply below_drew1 | refine below_set ?_ GE120.out) | exact HB.out)) hb)
                  clear BK120
                  clear HB
                  have BK120 := n0_
                  have HB := n1_
                  clear n0_ n1_
                  (try clear hb)
                  (try clear hb2)
                  (try clear hk)
                  (try clear hi)
                  refine hK.out _ _ ⟨(blk_cell BK120.out 0).trans rfl, (blk_cell BK120.out 1).trans rfl, (blk_cell BK120.out 2).trans rfl, (blk_cell BK120.out 3).trans rfl, (blk_cell BK120.out 4).trans rfl, (blk_cell BK120.out 5).trans rfl⟩ (fun hHeld => ?_)
                  clear hK K
                  refine norm_ (a' := ?_) ?_ ?_
                  rotate_left
                  · show Act.put _ (some 18) _ = _
                    simp only [Act.put, List.setIfInBounds_toArray, List.set_cons_zero, List.set_cons_succ, i64_w, i32_w]
                    rfl
                  refine pure_ (i := 15) (N := some 19) (v := ?_) (a' := ?_) #[true, true, true, true, true, true, true, true, true, true, true, true, true, true, true, true, true, true, false, false, true, true, false, false, false] rfl rfl (any_of HT_.out (by kernel_rfl)) (fun _ _ _ h => h) (Or.inl ⟨by rfl, ?_⟩) ?_ ?_
                  rotate_left
                  · intro w'
                    go_simp
                    with_reducible rfl
                  rotate_left
                  · simp only [Act.put, List.setIfInBounds_toArray, List.set_cons_zero, List.set_cons_succ, i64_w, i32_w]
                    rfl
                  refine one_ (i := 18) (N := some 22) #[true, true, true, true, true, true, true, true, true, true, true, true, true, true, true, true, true, true, true, false, true, true, false, false, false] rfl rfl (one_of HT_.out (by kernel_rfl)) (by decide) (fun K hK => ?_)
                  refine goes_ Tryd.func50 (by kernel_rfl) rfl #[.int .i64 a0_4, .int .i64 2] (by rfl) rfl rfl (by (try simp only [List.map_toArray, List.map_cons, List.map_nil]); first | done | rfl | (simp only [List.length_drop, List.length_take]; rfl)) ?_
                  with_reducible refine (super_put.calls k a0_4 2 t125 _ A10.out).mono ?_
                  rintro e w25 ⟨rfl, hb⟩
                  refine ⟨_, rfl, ?_⟩
                  have n0_ := Aside0.mk (blk_below (g := gb120) (o := .cells #[.int .i64 a0_0, .int .i64 a0_1, .int .i64 a0_2, .int .i64 a0_3, .int .i64 a0_4, .int .i64 a0_5] 43 (0, 0)) (by (with_reducible repeat (first | refine blk_drewN ?_ _ | refine blk_drew ?_ | refine blk_alloc ?_ _)); exact BK120.out) hb)
                  have n1_ := Aside0.mk (below_step (by repeat (first | (with_reducible first | exact HB.out | apply below_alloc | apply pw_below_drewN | apply below_drew1 | refine below_set ?_ GE120.out) | exact HB.out)) hb)
                  clear BK120
                  clear HB
                  have BK120 := n0_
                  have HB := n1_
                  clear n0_ n1_
                  (try clear hb)
                  (try clear hb2)
                  (try clear hk)
                  (try clear hi)
                  refine hK.out _ _ ⟨(blk_cell BK120.out 0).trans rfl, (blk_cell BK120.out 1).trans rfl, (blk_cell BK120.out 2).trans rfl, (blk_cell BK120.out 3).trans rfl, (blk_cell BK120.out 4).trans rfl, (blk_cell BK120.out 5).trans rfl⟩ (fun hHeld => ?_)
                  clear hK K
                  refine norm_ (a' := ?_) ?_ ?_
                  rotate_left
                  · show Act.put _ (some 22) _ = _
                    simp only [Act.put, List.setIfInBounds_toArray, List.set_cons_zero, List.set_cons_succ, i64_w, i32_w]
                    rfl
                  refine pure_ (i := 19) (N := some 23) (v := ?_) (a' := ?_) #[true, true, true, true, true, true, true, true, true, true, true, true, true, true, true, true, true, true, true, true, true, true, false, false, false] rfl rfl (any_of HT_.out (by kernel_rfl)) (fun _ _ _ h => h) (Or.inl ⟨by rfl, ?_⟩) ?_ ?_
                  rotate_left
                  · intro w'
                    go_simp
                    with_reducible rfl
                  rotate_left
                  · simp only [Act.put, List.setIfInBounds_toArray, List.set_cons_zero, List.set_cons_succ, i64_w, i32_w]
                    rfl
                  refine one_ (i := 22) (N := some 26) #[true, true, true, true, true, true, true, true, true, true, true, true, true, true, true, true, true, true, true, true, true, true, true, false, false] rfl rfl (one_of HT_.out (by kernel_rfl)) (by decide) (fun K hK => ?_)
                  refine goes_ Tryd.func50 (by kernel_rfl) rfl #[.int .i64 a0_5, .int .i64 1] (by rfl) rfl rfl (by (try simp only [List.map_toArray, List.map_cons, List.map_nil]); first | done | rfl | (simp only [List.length_drop, List.length_take]; rfl)) ?_
                  with_reducible refine (super_put.calls k a0_5 1 t126 _ A12.out).mono ?_
                  rintro e w26 ⟨rfl, hb⟩
                  refine ⟨_, rfl, ?_⟩
                  have n0_ := Aside0.mk (blk_below (g := gb120) (o := .cells #[.int .i64 a0_0, .int .i64 a0_1, .int .i64 a0_2, .int .i64 a0_3, .int .i64 a0_4, .int .i64 a0_5] 43 (0, 0)) (by (with_reducible repeat (first | refine blk_drewN ?_ _ | refine blk_drew ?_ | refine blk_alloc ?_ _)); exact BK120.out) hb)
                  have n1_ := Aside0.mk (below_step (by repeat (first | (with_reducible first | exact HB.out | apply below_alloc | apply pw_below_drewN | apply below_drew1 | refine below_set ?_ GE120.out) | exact HB.out)) hb)
                  clear BK120
                  clear HB
                  have BK120 := n0_
                  have HB := n1_
                  clear n0_ n1_
                  (try clear hb)
                  (try clear hb2)
                  (try clear hk)
                  (try clear hi)
                  refine hK.out _ _ ⟨(blk_cell BK120.out 0).trans rfl, (blk_cell BK120.out 1).trans rfl, (blk_cell BK120.out 2).trans rfl, (blk_cell BK120.out 3).trans rfl, (blk_cell BK120.out 4).trans rfl, (blk_cell BK120.out 5).trans rfl⟩ (fun hHeld => ?_)
                  clear hK K
                  refine norm_ (a' := ?_) ?_ ?_
                  rotate_left
                  · show Act.put _ (some 26) _ = _
                    simp only [Act.put, List.setIfInBounds_toArray, List.set_cons_zero, List.set_cons_succ, i64_w, i32_w]
                    rfl
                  refine pure_ (i := 23) (N := some 27) (v := ?_) (a' := ?_) #[true, true, true, true, true, true, true, true, true, true, true, true, true, true, true, true, true, true, true, true, true, true, true, true, false] rfl rfl (any_of HT_.out (by kernel_rfl)) (fun _ _ _ h => h) (Or.inl ⟨by rfl, ?_⟩) ?_ ?_
                  rotate_left
                  · intro w'
                    go_simp
                    with_reducible rfl
                  rotate_left
                  · simp only [Act.put, List.setIfInBounds_toArray, List.set_cons_zero, List.set_cons_succ, i64_w, i32_w]
                    rfl
                  refine pure_ (i := 24) (N := some 3) (v := ?_) (a' := ?_) #[true, true, true, true, true, true, true, true, true, true, true, true, true, true, true, true, true, true, true, true, true, true, true, true, true] rfl rfl (any_of HT_.out (by kernel_rfl)) (fun _ _ _ h => h) (Or.inl ⟨by rfl, ?_⟩) ?_ ?_
                  rotate_left
                  · intro w'
                    go_simp
                    with_reducible rfl
                  rotate_left
                  · simp only [Act.put, List.setIfInBounds_toArray, List.set_cons_zero, List.set_cons_succ, i64_w, i32_w]
                    rfl
                  refine done_ (done_of HT_.out (by kernel_rfl)) ?_
                  try go_wp2_with (first | ((with_reducible refine gate_callee (f := 28) rfl ?_); refine goesL_ (some 29) rfl rfl Tryd.func28 (by kernel_rfl) rfl #[.string (⟨#[0]⟩ : ByteArray), .int .i64 41] rfl (by (try simp only [List.map_toArray, List.map_cons, List.map_nil]); first | done | rfl | (simp only [List.length_drop, List.length_take]; rfl)) ?_; (with_reducible refine (strings_Repeat.calls (⟨#[0]⟩ : ByteArray) 41 t127 _ A14.out).mono ?_); rintro e w27 ⟨rfl, hb⟩; refine ⟨_, rfl, ?_⟩; have n0_ := Aside0.mk (blk_below (g := gb120) (o := .cells #[.int .i64 a0_0, .int .i64 a0_1, .int .i64 a0_2, .int .i64 a0_3, .int .i64 a0_4, .int .i64 a0_5] 43 (0, 0)) (by (with_reducible repeat (first | refine blk_drewN ?_ _ | refine blk_drew ?_ | refine blk_alloc ?_ _)); exact BK120.out) hb); have n1_ := Aside0.mk (below_step (by repeat (first | (with_reducible first | exact HB.out | apply below_alloc | apply pw_below_drewN | apply below_drew1 | refine below_set ?_ GE120.out) | exact HB.out)) hb); clear BK120; clear HB; have BK120 := n0_; have HB := n1_; clear n0_ n1_; (try clear hb); (try clear hb2); (try clear hk); (try clear hi)) | ((with_reducible refine gate_callee (f := 30) rfl ?_); refine goesL_ (some 33) rfl rfl Tryd.func30 (by kernel_rfl) rfl #[.string ((((((((⟨#[85, 77, 66, 49]⟩ : ByteArray) ++ t121) ++ t122) ++ t123) ++ t124) ++ t125) ++ t126) ++ t127)] rfl (by (try simp only [List.map_toArray, List.map_cons, List.map_nil]); first | done | rfl | (simp only [List.length_drop, List.length_take]; rfl)) ?_; (with_reducible refine (sum_Of.calls ((((((((⟨#[85, 77, 66, 49]⟩ : ByteArray) ++ t121) ++ t122) ++ t123) ++ t124) ++ t125) ++ t126) ++ t127) t128 _ ?side1 A16.out).mono ?_); (case side1 => exact Glob.below HG.out (by repeat (first | (with_reducible first | exact HB.out | apply below_alloc | apply pw_below_drewN | apply below_drew1 | refine below_set ?_ GE120.out) | exact HB.out))); rintro e w' ⟨rfl, ⟨nd, rfl⟩⟩; refine ⟨_, rfl, ?_⟩) | ((with_reducible refine gate_callee (f := 29) rfl ?_); refine goesL_ (some 34) rfl rfl Tryd.func29 (by kernel_rfl) rfl #[.int .u32 t128] rfl (by (try simp only [List.map_toArray, List.map_cons, List.map_nil]); first | done | rfl | (simp only [List.length_drop, List.length_take]; rfl)) ?_; (with_reducible refine (sum_Put.calls t128 t129 _ A17.out).mono ?_); rintro e w28 ⟨rfl, hb⟩; refine ⟨_, rfl, ?_⟩; have n0_ := Aside0.mk (blk_below (g := gb120) (o := .cells #[.int .i64 a0_0, .int .i64 a0_1, .int .i64 a0_2, .int .i64 a0_3, .int .i64 a0_4, .int .i64 a0_5] 43 (0, 0)) (by (with_reducible repeat (first | refine blk_drewN ?_ _ | refine blk_drew ?_ | refine blk_alloc ?_ _)); exact BK120.out) hb); have n1_ := Aside0.mk (below_step (by repeat (first | (with_reducible first | exact HB.out | apply below_alloc | apply pw_below_drewN | apply below_drew1 | refine below_set ?_ GE120.out) | exact HB.out)) hb); clear BK120; clear HB; have BK120 := n0_; have HB := n1_; clear n0_ n1_; (try clear hb); (try clear hb2); (try clear hk); (try clear hi)))
                  go_ret
                  exact ⟨by first | rfl | (simp [errW_none, errW_some] <;> rfl) | (simp [*, errW_none, errW_some] <;> rfl), by repeat (first | (with_reducible first | exact HB.out | apply below_alloc | apply pw_below_drewN | apply below_drew1 | refine below_set ?_ GE120.out) | exact HB.out)⟩
                · rw [if_neg c18] at H
                  exact absurd H (by simp)
              · rw [if_neg c15] at H
                exact absurd H (by simp)
            · rw [if_neg c13] at H
              exact absurd H (by simp)
          · rw [if_neg c11] at H
            exact absurd H (by simp)
        · rw [if_neg c9] at H
          exact absurd H (by simp)
      · rw [if_neg c7] at H
        exact absurd H (by simp)
    · rw [if_neg c5] at H
      exact absurd H (by simp)
  · rw [if_neg c3] at H
    exact absurd H (by simp)

/-! ### super_Encode: function 18 -/
def super_Encode.f (k : Nat) (a0_0 : Int) (a0_1 : Int) (a0_2 : Int) (a0_3 : Int) (a0_4 : Int) (a0_5 : Int) : Option (ByteArray × Bool) := (super_Good.f a0_0 a0_1 a0_2 a0_3 a0_4 a0_5).bind fun t131 => (if t131 = true then ((super_sector.f k a0_0 a0_1 a0_2 a0_3 a0_4 a0_5).bind fun t132 => ((strings_Repeat.f (⟨#[0]⟩ : ByteArray) 192).bind fun t133 => (if t132.size + t133.size ≤ 9223372036854775807 then (some (t132 ++ t133, true)) else (none)))) else (some ((⟨#[]⟩ : ByteArray), false)))
set_option maxHeartbeats 8000000 in
set_option maxRecDepth 100000 in
theorem super_Encode.calls (k : Nat) (a0_0 : Int) (a0_1 : Int) (a0_2 : Int) (a0_3 : Int) (a0_4 : Int) (a0_5 : Int) (r1 : ByteArray) (r2 : Bool) (w : World) (hG : Glob w) (h : super_Encode.f k a0_0 a0_1 a0_2 a0_3 a0_4 a0_5 = some (r1, r2)) :
    Calls Tryd.prog 18 #[.agg #[.int .i64 a0_0, .int .i64 a0_1, .int .i64 a0_2, .int .i64 a0_3, .int .i64 a0_4, .int .i64 a0_5]] w fun e w' => e = .returned (.tuple #[.string r1, .bool r2]) ∧ Below w.heap.size w w' := by
  have hu43 := Tryd.underlying43
  have HG := Aside0.mk hG
  clear hG
  have HB := Aside0.mk (Below.refl w.heap.size w)
  have H : ((super_Good.f a0_0 a0_1 a0_2 a0_3 a0_4 a0_5).bind fun t131 => (if t131 = true then ((super_sector.f k a0_0 a0_1 a0_2 a0_3 a0_4 a0_5).bind fun t132 => ((strings_Repeat.f (⟨#[0]⟩ : ByteArray) 192).bind fun t133 => (if t132.size + t133.size ≤ 9223372036854775807 then (some (t132 ++ t133, true)) else (none)))) else (some ((⟨#[]⟩ : ByteArray), false)))) = some (r1, r2) := h
  clear h
  replace H := Option.bind_eq_some_iff.mp H
  obtain ⟨t131, A20, H⟩ := H
  replace H : (if t131 = true then ((super_sector.f k a0_0 a0_1 a0_2 a0_3 a0_4 a0_5).bind fun t132 => ((strings_Repeat.f (⟨#[0]⟩ : ByteArray) 192).bind fun t133 => (if t132.size + t133.size ≤ 9223372036854775807 then (some (t132 ++ t133, true)) else (none)))) else (some ((⟨#[]⟩ : ByteArray), false))) = some (r1, r2) := H
  have A2 := Aside0.mk A20
  clear A20
  by_cases c3 : t131 = true
  · subst c3
    have H1 : ((super_sector.f k a0_0 a0_1 a0_2 a0_3 a0_4 a0_5).bind fun t132 => ((strings_Repeat.f (⟨#[0]⟩ : ByteArray) 192).bind fun t133 => (if t132.size + t133.size ≤ 9223372036854775807 then (some (t132 ++ t133, true)) else (none)))) = some (r1, r2) := by rw [if_pos rfl] at H; exact H
    clear H
    have H := H1
    clear H1
    replace H := Option.bind_eq_some_iff.mp H
    obtain ⟨t132, A40, H⟩ := H
    replace H : ((strings_Repeat.f (⟨#[0]⟩ : ByteArray) 192).bind fun t133 => (if t132.size + t133.size ≤ 9223372036854775807 then (some (t132 ++ t133, true)) else (none))) = some (r1, r2) := H
    have A4 := Aside0.mk A40
    clear A40
    replace H := Option.bind_eq_some_iff.mp H
    obtain ⟨t133, A50, H⟩ := H
    replace H : (if t132.size + t133.size ≤ 9223372036854775807 then (some (t132 ++ t133, true)) else (none)) = some (r1, r2) := H
    have A5 := Aside0.mk A50
    clear A50
    by_cases c6 : t132.size + t133.size ≤ 9223372036854775807
    · rw [if_pos c6] at H
      have c6b0 := eq_true c6
      have c6b1 : decide (t132.size + t133.size ≤ 9223372036854775807) = true := decide_eq_true c6
      try have c6b2 : (9223372036854775807 < t132.size + t133.size) = False := eq_false (Nat.not_lt.2 c6)
      simp only [Option.some.injEq, Prod.mk.injEq] at H
      obtain ⟨rfl, rfl⟩ := H
      go_enter Tryd.func18, Tryd.ntmps18
      go_wp2_with (first | ((with_reducible refine gate_dst (N := 1) rfl ?_); refine box_event ?hg (N := 1) ?hd (cs := #[.int .i64 a0_0, .int .i64 a0_1, .int .i64 a0_2, .int .i64 a0_3, .int .i64 a0_4, .int .i64 a0_5]) (t := 43) ?hr ?_; (case hd => rfl); (case hg => rfl); (case hr => first | (go_simp; done) | (go_simp; rfl)); intro gb130 hg w7 hbox hb; have n0_ := Aside0.mk (below_step (by repeat (first | (with_reducible first | exact HB.out | apply below_alloc | apply pw_below_drewN | apply below_drew1) | exact HB.out)) hb); have n1_ := Aside0.mk (hbox); have n2_ := Aside0.mk ((by rw [hg]; exact (below_size (by repeat (first | (with_reducible first | exact HB.out | apply below_alloc | apply pw_below_drewN | apply below_drew1) | exact HB.out))) : w.heap.size ≤ gb130)); have n3_ := Aside0.mk ((by rw [hg]; exact (below_size (by repeat (first | (with_reducible first | exact HB.out | apply below_alloc | apply pw_below_drewN | apply below_drew1) | exact HB.out))) : w.heap.size ≤ gb130)); clear HB; have HB := n0_; have BK130 := n1_; have GW130 := n2_; have GE130 := n3_; clear n0_ n1_ n2_ n3_; clear hb hbox hg; have hcz8_0 : w7.cell? ⟨gb130, 0, none⟩ = some (.int .i64 a0_0) := (blk_cell BK130.out 0).trans rfl; have hcz8_1 : w7.cell? ⟨gb130, 1, none⟩ = some (.int .i64 a0_1) := (blk_cell BK130.out 1).trans rfl; have hcz8_2 : w7.cell? ⟨gb130, 2, none⟩ = some (.int .i64 a0_2) := (blk_cell BK130.out 2).trans rfl; have hcz8_3 : w7.cell? ⟨gb130, 3, none⟩ = some (.int .i64 a0_3) := (blk_cell BK130.out 3).trans rfl; have hcz8_4 : w7.cell? ⟨gb130, 4, none⟩ = some (.int .i64 a0_4) := (blk_cell BK130.out 4).trans rfl; have hcz8_5 : w7.cell? ⟨gb130, 5, none⟩ = some (.int .i64 a0_5) := (blk_cell BK130.out 5).trans rfl; have hfz8_0 := blk_frozen BK130.out 0; have hfz8_1 := blk_frozen BK130.out 1; have hfz8_2 := blk_frozen BK130.out 2; have hfz8_3 := blk_frozen BK130.out 3; have hfz8_4 := blk_frozen BK130.out 4; have hfz8_5 := blk_frozen BK130.out 5) | ((with_reducible refine gate_callee (f := 24) rfl ?_); refine goesL_ (some 5) rfl rfl Tryd.func24 (by kernel_rfl) rfl #[.agg #[.int .i64 a0_0, .int .i64 a0_1, .int .i64 a0_2, .int .i64 a0_3, .int .i64 a0_4, .int .i64 a0_5]] rfl (by (try simp only [List.map_toArray, List.map_cons, List.map_nil]); first | done | rfl | (simp only [List.length_drop, List.length_take]; rfl)) ?_; (with_reducible refine (super_Good.calls a0_0 a0_1 a0_2 a0_3 a0_4 a0_5 true _ A2.out).mono ?_); rintro e w9 ⟨rfl, hb⟩; refine ⟨_, rfl, ?_⟩; have n0_ := Aside0.mk (blk_below (g := gb130) (o := .cells #[.int .i64 a0_0, .int .i64 a0_1, .int .i64 a0_2, .int .i64 a0_3, .int .i64 a0_4, .int .i64 a0_5] 43 (0, 0)) (by (with_reducible repeat (first | refine blk_drewN ?_ _ | refine blk_drew ?_ | refine blk_alloc ?_ _)); exact BK130.out) hb); have n1_ := Aside0.mk (below_step (by repeat (first | (with_reducible first | exact HB.out | apply below_alloc | apply pw_below_drewN | apply below_drew1 | refine below_set ?_ GE130.out) | exact HB.out)) hb); clear BK130; clear HB; have BK130 := n0_; have HB := n1_; clear n0_ n1_; (try clear hb); (try clear hb2); (try clear hk); (try clear hi); have hcz10_0 : w9.cell? ⟨gb130, 0, none⟩ = some (.int .i64 a0_0) := (blk_cell BK130.out 0).trans rfl; have hcz10_1 : w9.cell? ⟨gb130, 1, none⟩ = some (.int .i64 a0_1) := (blk_cell BK130.out 1).trans rfl; have hcz10_2 : w9.cell? ⟨gb130, 2, none⟩ = some (.int .i64 a0_2) := (blk_cell BK130.out 2).trans rfl; have hcz10_3 : w9.cell? ⟨gb130, 3, none⟩ = some (.int .i64 a0_3) := (blk_cell BK130.out 3).trans rfl; have hcz10_4 : w9.cell? ⟨gb130, 4, none⟩ = some (.int .i64 a0_4) := (blk_cell BK130.out 4).trans rfl; have hcz10_5 : w9.cell? ⟨gb130, 5, none⟩ = some (.int .i64 a0_5) := (blk_cell BK130.out 5).trans rfl; have hfz10_0 := blk_frozen BK130.out 0; have hfz10_1 := blk_frozen BK130.out 1; have hfz10_2 := blk_frozen BK130.out 2; have hfz10_3 := blk_frozen BK130.out 3; have hfz10_4 := blk_frozen BK130.out 4; have hfz10_5 := blk_frozen BK130.out 5) | ((with_reducible refine gate_callee (f := 37) rfl ?_); refine goesL_ (some 8) rfl rfl Tryd.func37 (by kernel_rfl) rfl #[.agg #[.int .i64 a0_0, .int .i64 a0_1, .int .i64 a0_2, .int .i64 a0_3, .int .i64 a0_4, .int .i64 a0_5]] rfl (by (try simp only [List.map_toArray, List.map_cons, List.map_nil]); first | done | rfl | (simp only [List.length_drop, List.length_take]; rfl)) ?_; (with_reducible refine (super_sector.calls k a0_0 a0_1 a0_2 a0_3 a0_4 a0_5 t132 _ ?side1 A4.out).mono ?_); (case side1 => exact Glob.below HG.out (by repeat (first | (with_reducible first | exact HB.out | apply below_alloc | apply pw_below_drewN | apply below_drew1 | refine below_set ?_ GE130.out) | exact HB.out))); rintro e w11 ⟨rfl, hb⟩; refine ⟨_, rfl, ?_⟩; have n0_ := Aside0.mk (blk_below (g := gb130) (o := .cells #[.int .i64 a0_0, .int .i64 a0_1, .int .i64 a0_2, .int .i64 a0_3, .int .i64 a0_4, .int .i64 a0_5] 43 (0, 0)) (by (with_reducible repeat (first | refine blk_drewN ?_ _ | refine blk_drew ?_ | refine blk_alloc ?_ _)); exact BK130.out) hb); have n1_ := Aside0.mk (below_step (by repeat (first | (with_reducible first | exact HB.out | apply below_alloc | apply pw_below_drewN | apply below_drew1 | refine below_set ?_ GE130.out) | exact HB.out)) hb); clear BK130; clear HB; have BK130 := n0_; have HB := n1_; clear n0_ n1_; (try clear hb); (try clear hb2); (try clear hk); (try clear hi)) | ((with_reducible refine gate_callee (f := 28) rfl ?_); refine goesL_ (some 9) rfl rfl Tryd.func28 (by kernel_rfl) rfl #[.string (⟨#[0]⟩ : ByteArray), .int .i64 192] rfl (by (try simp only [List.map_toArray, List.map_cons, List.map_nil]); first | done | rfl | (simp only [List.length_drop, List.length_take]; rfl)) ?_; (with_reducible refine (strings_Repeat.calls (⟨#[0]⟩ : ByteArray) 192 t133 _ A5.out).mono ?_); rintro e w12 ⟨rfl, hb⟩; refine ⟨_, rfl, ?_⟩; have n0_ := Aside0.mk (blk_below (g := gb130) (o := .cells #[.int .i64 a0_0, .int .i64 a0_1, .int .i64 a0_2, .int .i64 a0_3, .int .i64 a0_4, .int .i64 a0_5] 43 (0, 0)) (by (with_reducible repeat (first | refine blk_drewN ?_ _ | refine blk_drew ?_ | refine blk_alloc ?_ _)); exact BK130.out) hb); have n1_ := Aside0.mk (below_step (by repeat (first | (with_reducible first | exact HB.out | apply below_alloc | apply pw_below_drewN | apply below_drew1 | refine below_set ?_ GE130.out) | exact HB.out)) hb); clear BK130; clear HB; have BK130 := n0_; have HB := n1_; clear n0_ n1_; (try clear hb); (try clear hb2); (try clear hk); (try clear hi)))
      go_ret2
      exact ⟨by first | rfl | (simp [errW_none, errW_some] <;> rfl) | (simp [*, errW_none, errW_some] <;> rfl), by repeat (first | (with_reducible first | exact HB.out | apply below_alloc | apply pw_below_drewN | apply below_drew1 | refine below_set ?_ GE130.out) | exact HB.out)⟩
    · rw [if_neg c6] at H
      exact absurd H (by simp)
  · replace c3 := Bool.eq_false_iff.mpr c3
    subst c3
    have H1 : (some ((⟨#[]⟩ : ByteArray), false)) = some (r1, r2) := by rw [if_neg (show ¬ (false = true) by decide)] at H; exact H
    clear H
    have H := H1
    clear H1
    simp only [Option.some.injEq, Prod.mk.injEq] at H
    obtain ⟨rfl, rfl⟩ := H
    go_enter Tryd.func18, Tryd.ntmps18
    go_wp2_with (first | ((with_reducible refine gate_dst (N := 1) rfl ?_); refine box_event ?hg (N := 1) ?hd (cs := #[.int .i64 a0_0, .int .i64 a0_1, .int .i64 a0_2, .int .i64 a0_3, .int .i64 a0_4, .int .i64 a0_5]) (t := 43) ?hr ?_; (case hd => rfl); (case hg => rfl); (case hr => first | (go_simp; done) | (go_simp; rfl)); intro gb130 hg w13 hbox hb; have n0_ := Aside0.mk (below_step (by repeat (first | (with_reducible first | exact HB.out | apply below_alloc | apply pw_below_drewN | apply below_drew1) | exact HB.out)) hb); have n1_ := Aside0.mk (hbox); have n2_ := Aside0.mk ((by rw [hg]; exact (below_size (by repeat (first | (with_reducible first | exact HB.out | apply below_alloc | apply pw_below_drewN | apply below_drew1) | exact HB.out))) : w.heap.size ≤ gb130)); have n3_ := Aside0.mk ((by rw [hg]; exact (below_size (by repeat (first | (with_reducible first | exact HB.out | apply below_alloc | apply pw_below_drewN | apply below_drew1) | exact HB.out))) : w.heap.size ≤ gb130)); clear HB; have HB := n0_; have BK130 := n1_; have GW130 := n2_; have GE130 := n3_; clear n0_ n1_ n2_ n3_; clear hb hbox hg; have hcz14_0 : w13.cell? ⟨gb130, 0, none⟩ = some (.int .i64 a0_0) := (blk_cell BK130.out 0).trans rfl; have hcz14_1 : w13.cell? ⟨gb130, 1, none⟩ = some (.int .i64 a0_1) := (blk_cell BK130.out 1).trans rfl; have hcz14_2 : w13.cell? ⟨gb130, 2, none⟩ = some (.int .i64 a0_2) := (blk_cell BK130.out 2).trans rfl; have hcz14_3 : w13.cell? ⟨gb130, 3, none⟩ = some (.int .i64 a0_3) := (blk_cell BK130.out 3).trans rfl; have hcz14_4 : w13.cell? ⟨gb130, 4, none⟩ = some (.int .i64 a0_4) := (blk_cell BK130.out 4).trans rfl; have hcz14_5 : w13.cell? ⟨gb130, 5, none⟩ = some (.int .i64 a0_5) := (blk_cell BK130.out 5).trans rfl; have hfz14_0 := blk_frozen BK130.out 0; have hfz14_1 := blk_frozen BK130.out 1; have hfz14_2 := blk_frozen BK130.out 2; have hfz14_3 := blk_frozen BK130.out 3; have hfz14_4 := blk_frozen BK130.out 4; have hfz14_5 := blk_frozen BK130.out 5) | ((with_reducible refine gate_callee (f := 24) rfl ?_); refine goesL_ (some 5) rfl rfl Tryd.func24 (by kernel_rfl) rfl #[.agg #[.int .i64 a0_0, .int .i64 a0_1, .int .i64 a0_2, .int .i64 a0_3, .int .i64 a0_4, .int .i64 a0_5]] rfl (by (try simp only [List.map_toArray, List.map_cons, List.map_nil]); first | done | rfl | (simp only [List.length_drop, List.length_take]; rfl)) ?_; (with_reducible refine (super_Good.calls a0_0 a0_1 a0_2 a0_3 a0_4 a0_5 false _ A2.out).mono ?_); rintro e w15 ⟨rfl, hb⟩; refine ⟨_, rfl, ?_⟩; have n0_ := Aside0.mk (blk_below (g := gb130) (o := .cells #[.int .i64 a0_0, .int .i64 a0_1, .int .i64 a0_2, .int .i64 a0_3, .int .i64 a0_4, .int .i64 a0_5] 43 (0, 0)) (by (with_reducible repeat (first | refine blk_drewN ?_ _ | refine blk_drew ?_ | refine blk_alloc ?_ _)); exact BK130.out) hb); have n1_ := Aside0.mk (below_step (by repeat (first | (with_reducible first | exact HB.out | apply below_alloc | apply pw_below_drewN | apply below_drew1 | refine below_set ?_ GE130.out) | exact HB.out)) hb); clear BK130; clear HB; have BK130 := n0_; have HB := n1_; clear n0_ n1_; (try clear hb); (try clear hb2); (try clear hk); (try clear hi)))
    go_ret2
    exact ⟨by first | rfl | (simp [errW_none, errW_some] <;> rfl) | (simp [*, errW_none, errW_some] <;> rfl), by repeat (first | (with_reducible first | exact HB.out | apply below_alloc | apply pw_below_drewN | apply below_drew1 | refine below_set ?_ GE130.out) | exact HB.out)⟩

/-! ### super_number: function 39 -/
def super_number.l0 : Nat → ByteArray → Int → Int → Int → Option (Int)
  | 0, _, _, _, _ => none
  | k + 1, x0, x3, x6, x7 => if x7 < x6 then (if 0 ≤ x7 then (if x7 < (x0.size : Int) then (super_number.l0 k x0 (Go.bits .or .i64 (wrap64 (x3 * 256)) (wrap64 (bt x0 x7))) x6 (wrap64 (x7 + 1))) else (none)) else (none)) else (some x3)
def super_number.f (k : Nat) (a0 : ByteArray) : Option (Int) := super_number.l0 k a0 0 (a0.size : Int) 0
theorem super_number.mono_l : ∀ k, (∀ y0 y1 y2 y3, LeO (super_number.l0 k y0 y1 y2 y3) (super_number.l0 (k + 1) y0 y1 y2 y3))
  | 0 => fun _ _ _ _ r h => by simp [super_number.l0] at h
  | k + 1 => by
    have ih0 := super_number.mono_l k
    · intro y0 y1 y2 y3
      unfold super_number.l0
      repeat' first
      | (with_reducible exact ih0 _ _ _ _)
      | (with_reducible exact LeO.refl _)
      | (with_reducible exact LeO.none _)
      | (with_reducible refine LeO.ite ?_ ?_)
      | (with_reducible refine LeO.bind ?_ (fun _ => ?_))
      | exact ih0 _ _ _ _
      | exact LeO.none _
      | refine LeO.ite ?_ ?_
      | refine LeO.bind ?_ (fun _ => ?_)
theorem super_number.mono : ∀ a0 k, LeO (super_number.f k a0) (super_number.f (k + 1) a0) := by
  intro a0 k
  have ih0 := super_number.mono_l k
  unfold super_number.f
  repeat' first
      | (with_reducible exact ih0 _ _ _ _)
      | (with_reducible exact LeO.refl _)
      | (with_reducible exact LeO.none _)
      | (with_reducible refine LeO.ite ?_ ?_)
      | (with_reducible refine LeO.bind ?_ (fun _ => ?_))
      | exact ih0 _ _ _ _
      | exact LeO.none _
      | refine LeO.ite ?_ ?_
      | refine LeO.bind ?_ (fun _ => ?_)
set_option maxHeartbeats 8000000 in
set_option maxRecDepth 100000 in
theorem super_number.calls (k : Nat) (a0 : ByteArray) (r : Int) (w : World) (h : super_number.f k a0 = some r) :
    Calls Tryd.prog 39 #[.string a0] w fun e w' => e = .returned (.int .i64 r) ∧ Drawn0 w w' := by
  have H : (super_number.l0 k a0 0 (a0.size : Int) 0) = some r := h
  clear h
  have H' := Aside0.mk H
  clear H
  go_enter Tryd.func39, Tryd.ntmps39
  go_wp2
  go_loopg [3, 7] k (fun kq v3 v7 w' => ∃ (x3_1 : Int) (x7_1 : Int), v3 = .int .i64 x3_1 ∧ v7 = .int .i64 x7_1 ∧ Aside0 (super_number.l0 kq a0 x3_1 (a0.size : Int) x7_1 = some r) ∧ Aside0 (kq ≤ k) ∧ Drawn0 w w')
  case atStart => exact ⟨(0), (0), (by first | rfl | (simp; done) | (simp [*]; done)), (by first | rfl | (simp; done) | (simp [*]; done)), H', ⟨Nat.le_refl _⟩, by repeat (first | exact Drawn0.refl _ | apply Drawn0.step)⟩
  case round =>
    clear H'
    obtain ⟨x3_1, x7_1, rfl, rfl, HA, HK1, ⟨m1, rfl⟩⟩ := hrel
    cases gk with
    | zero => exact absurd HA.out (by simp [super_number.l0])
    | succ k1 =>
      have H := HA.out
      clear HA
      simp only [super_number.l0] at H
      by_cases c2 : x7_1 < (a0.size : Int)
      · rw [if_pos c2] at H
        have c2b0 : decide (x7_1 < (a0.size : Int)) = true := decide_eq_true c2
        clear c2
        by_cases c3 : 0 ≤ x7_1
        · rw [if_pos c3] at H
          have c3b0 : decide (0 ≤ x7_1) = true := decide_eq_true c3
          clear c3
          by_cases c4 : x7_1 < (a0.size : Int)
          · rw [if_pos c4] at H
            have c4b0 : decide (x7_1 < (a0.size : Int)) = true := decide_eq_true c4
            clear c4
            have H' := Aside0.mk H
            clear H
            have p5 : 0 ≤ (x7_1 : Int) := of_decide_eq_true (by first | (with_reducible assumption) | assumption)
            have q5 : x7_1 < (a0.size : Int) := of_decide_eq_true (by first | (with_reducible assumption) | assumption)
            have hx5 := bt_at a0 x7_1
            replace p5 := eq_true p5
            replace q5 := eq_true q5
            go_wp2
            go_roundg k1
            case measure => have := HK1.out; omega
            case rel => exact ⟨(Go.bits .or .i64 (wrap64 (x3_1 * 256)) (wrap64 (bt a0 x7_1))), (wrap64 (x7_1 + 1)), (by first | rfl | (simp; done) | (simp [*]; done)), (by first | rfl | (simp; done) | (simp [*]; done)), H', ⟨by have := HK1.out; omega⟩, by repeat (first | exact Drawn0.refl _ | apply Drawn0.step)⟩
          · rw [if_neg c4] at H
            exact absurd H (by simp)
        · rw [if_neg c3] at H
          exact absurd H (by simp)
      · rw [if_neg c2] at H
        have c2b0 : decide (x7_1 < (a0.size : Int)) = false := decide_eq_false c2
        clear c2
        obtain rfl := Option.some.inj H
        go_wp2
        go_ret
        exact ⟨by first | rfl | (simp; done) | (simp [*]; done), by repeat (first | exact Drawn0.refl _ | apply Drawn0.step)⟩

end Go.Proofs.YtiajgmocmnjijaaDoor.PSup
