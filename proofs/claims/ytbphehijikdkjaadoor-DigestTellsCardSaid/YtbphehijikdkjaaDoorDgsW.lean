/-
  wakes of the digest's laws, walked.
-/
import Derived.Test.YtbphehijikdkjaaDoorDgsV
import Derived.Test.YtbphehijikdkjaaDoorDgsX
namespace Go.Proofs.YtbphehijikdkjaaDoor.DgsW
open Go.RowKit Go.Proofs.YtbphehijikdkjaaDoorW.PrintWords Go.Proofs.YtbphehijikdkjaaDoorW.PrintMore Go.Proofs.YtbphehijikdkjaaDoor.Cm Go.Proofs.YtbphehijikdkjaaDoor.Str Go.Proofs.YtbphehijikdkjaaDoor.DgsP Go.Proofs.YtbphehijikdkjaaDoor.DgsB Go.Proofs.YtbphehijikdkjaaDoor.DgsL Go.Proofs.YtbphehijikdkjaaDoor.DgsO Go.Proofs.YtbphehijikdkjaaDoor.DgsX Go.Proofs.YtbphehijikdkjaaDoor.DgsV Go.Proofs.YtbphehijikdkjaaDoor.PDgs
set_option linter.unusedVariables false
abbrev sAbc : ByteArray := ⟨#[97, 98, 99]⟩
abbrev sNil : ByteArray := ⟨#[]⟩
abbrev sFf : ByteArray := ⟨#[0, 255]⟩
theorem R_ofB (l : List Int) : R (ofB l) := R_outB _
theorem of_abc : bytesOf sAbc = [97, 98, 99] := by decide
theorem of_nil : bytesOf sNil = [] := by decide
theorem of_ff : bytesOf sFf = [0, 255] := by decide
set_option maxRecDepth 100000 in
set_option maxHeartbeats 4000000 in
theorem wakes_c (w : World) (hG : Glob w) : Calls Tryd.prog 10 #[] w fun e w' => e = .returned (.bool true) ∧ Below w.heap.size w w' := by
  obtain ⟨d1, hd1⟩ : ∃ d, d = strOfNums (ofB (bytesOf sAbc)) := ⟨_, rfl⟩
  obtain ⟨h1, hh1⟩ : ∃ d, d = strOfNums (hexB (bytesOf d1)) := ⟨_, rfl⟩
  obtain ⟨d2, hd2⟩ : ∃ d, d = strOfNums (ofB (bytesOf sNil)) := ⟨_, rfl⟩
  obtain ⟨h2, hh2⟩ : ∃ d, d = strOfNums (hexB (bytesOf d2)) := ⟨_, rfl⟩
  obtain ⟨p1, hp1⟩ : ∃ d, d = strOfNums (padB 0) := ⟨_, rfl⟩
  obtain ⟨p2, hp2⟩ : ∃ d, d = strOfNums (padB 56) := ⟨_, rfl⟩
  obtain ⟨h3, hh3⟩ : ∃ d, d = strOfNums (hexB (bytesOf sFf)) := ⟨_, rfl⟩
  have O1 := Lib.hid fun W (g : Glob W) => of_c sAbc (by decide) W g
  have O2 := Lib.hid fun W (g : Glob W) => of_c sNil (by decide) W g
  rw [← hd1] at O1
  rw [← hd2] at O2
  have z1 : d1.size ≤ 1000000 := by rw [hd1, str_size, ofB, outB_len, hsAt_len]; decide
  have z2 : d2.size ≤ 1000000 := by rw [hd2, str_size, ofB, outB_len, hsAt_len]; decide
  have X1 := Lib.hid fun W => hex_c d1 z1 W
  have X2 := Lib.hid fun W => hex_c d2 z2 W
  have X3 := Lib.hid fun W => hex_c sFf (by decide) W
  rw [← hh1] at X1
  rw [← hh2] at X2
  rw [← hh3] at X3
  have P1 := Lib.hid fun W => digest_Pad.calls 9 0 _ W (pad_eq 0 (by decide) 0 rfl)
  have P2 := Lib.hid fun W => digest_Pad.calls 9 56 _ W (pad_eq 56 (by decide) 56 rfl)
  rw [← hp1] at P1
  rw [← hp2] at P2
  have e1 : h1 = ⟨#[98, 97, 55, 56, 49, 54, 98, 102, 56, 102, 48, 49, 99, 102, 101, 97, 52, 49, 52, 49, 52, 48, 100, 101, 53, 100, 97, 101, 50, 50, 50, 51, 98, 48, 48, 51, 54, 49, 97, 51, 57, 54, 49, 55, 55, 97, 57, 99, 98, 52, 49, 48, 102, 102, 54, 49, 102, 50, 48, 48, 49, 53, 97, 100]⟩ := by
    apply bytes_inj
    rw [hh1, hd1, bytes_str _ (R_ofB _), of_abc, bytes_str _ (R_hexB (R_ofB _)), hex_abc]; decide +kernel
  have e2 : h2 = ⟨#[101, 51, 98, 48, 99, 52, 52, 50, 57, 56, 102, 99, 49, 99, 49, 52, 57, 97, 102, 98, 102, 52, 99, 56, 57, 57, 54, 102, 98, 57, 50, 52, 50, 55, 97, 101, 52, 49, 101, 52, 54, 52, 57, 98, 57, 51, 52, 99, 97, 52, 57, 53, 57, 57, 49, 98, 55, 56, 53, 50, 98, 56, 53, 53]⟩ := by
    apply bytes_inj
    rw [hh2, hd2, bytes_str _ (R_ofB _), of_nil, bytes_str _ (R_hexB (R_ofB _)), hex_nil]; decide +kernel
  have e3 : h3 = ⟨#[48, 48, 102, 102]⟩ := by
    apply bytes_inj
    rw [hh3, of_ff, bytes_str _ (R_hexB (by rw [← of_ff]; exact R_bytesOf _))]; decide +kernel
  have n1 : p1.size = 64 := by rw [hp1, str_size, padB_len]; decide
  have n2 : p2.size = 72 := by rw [hp2, str_size, padB_len]; decide
  have q1 : ((p1.size : Int) == 64) = true := by rw [n1]; decide
  have q2 : ((p2.size : Int) == 72) = true := by rw [n2]; decide
  have N1 := Lib.hid n1
  have N2 := Lib.hid n2
  have HG := Lib.hid hG
  have hC1 := Calm.refl w
  subst e1
  subst e2
  subst e3
  clear hd1 hh1 hd2 hh2 hp1 hp2 hh3 n1 n2 z1 z2 hG
  go_enter Tryd.func10, Tryd.ntmps10
  go_wp2_with fail
  repeat ((first | with_reducible refine (Calm.call hC1 (O1.out _ (HG.out.below hC1.below))).mono ?_ | with_reducible refine (Calm.call hC1 (O2.out _ (HG.out.below hC1.below))).mono ?_ | with_reducible refine (Calm.call hC1 (X1.out _)).mono ?_ | with_reducible refine (Calm.call hC1 (X2.out _)).mono ?_ | with_reducible refine (Calm.call hC1 (X3.out _)).mono ?_ | with_reducible refine (Calm.call hC1 (P1.out _)).mono ?_ | with_reducible refine (Calm.call hC1 (P2.out _)).mono ?_); rintro e w9 ⟨rfl, hC9⟩; clear hC1; have hC1 := hC9; clear hC9; go_wp2_with fail)
  go_ret
  exact ⟨rfl, hC1.below⟩
end Go.Proofs.YtbphehijikdkjaaDoor.DgsW
