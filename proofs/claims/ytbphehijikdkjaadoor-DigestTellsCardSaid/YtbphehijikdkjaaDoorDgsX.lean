/-
  digest.Hex, walked by hand over the library's contracts of strings.Builder.
-/
import Derived.Test.YtbphehijikdkjaaDoorDgsK
import Derived.Test.YtbphehijikdkjaaDoorDgsL
import Derived.Test.YtbphehijikdkjaaDoorCalm
import Derived.Deep.DeepMust
namespace Go.Proofs.YtbphehijikdkjaaDoor.DgsX
open Go.RowKit Go.Proofs.YtbphehijikdkjaaDoorW.PrintWords Go.Proofs.YtbphehijikdkjaaDoorW.PrintMore Go.Proofs.YtbphehijikdkjaaDoor.Cm Go.Proofs.YtbphehijikdkjaaDoor.Str Go.Proofs.YtbphehijikdkjaaDoor.DgsL
set_option linter.unusedVariables false
/-- Numbers as bytes. -/
def u8s (l : List Int) : List UInt8 := l.map fun x => UInt8.ofNat x.toNat
theorem cells_u8s (l : List Int) (h : R l) : Lib.byteCells (u8s l) = l.map (Value.int .u8) := by
  unfold Lib.byteCells u8s
  rw [List.map_map]
  apply List.map_congr_left
  intro x hx
  have := h x hx
  show Value.int .u8 ((UInt8.ofNat x.toNat).toNat : Int) = _
  congr 1
  rw [UInt8.toNat_ofNat']
  omega
theorem u8s_str (l : List Int) : (⟨(u8s l).toArray⟩ : ByteArray) = strOfNums l := by
  apply str_ext
  rw [strOfNums_data]
  simp [u8s]
theorem run_index_str {P : Program} (W : World) {T : TypeId} (hT : P.underlying T = some .string) (s : ByteArray) (k : IntKind) (i : Int) (h0 : 0 ≤ i) (h1 : i < (s.size : Int)) :
    (Instr.index T (.string s) (.int k i)).run P W = .ok (.int .u8 (bt s i)) W := by
  have h2 : i.toNat < s.size := by omega
  simp [Instr.index, run_underlying hT, asIntOf, h0, h2, bt, go_sem]
def digs : ByteArray := ⟨#[48, 49, 50, 51, 52, 53, 54, 55, 56, 57, 97, 98, 99, 100, 101, 102]⟩
theorem hex_idx (n : Int) (h : 0 ≤ n ∧ n < 16) (k : IntKind) (W : World) : (Instr.index 9 (.string ⟨#[48, 49, 50, 51, 52, 53, 54, 55, 56, 57, 97, 98, 99, 100, 101, 102]⟩) (.int k n)).run Tryd.prog W = .ok (.int .u8 (hx n)) W := by
  rw [run_index_str W Tryd.underlying9 ⟨#[48, 49, 50, 51, 52, 53, 54, 55, 56, 57, 97, 98, 99, 100, 101, 102]⟩ k n h.1 (show n < ((16 : Nat) : Int) from h.2), hx_bt]
theorem bt_byte (s : ByteArray) (i : Int) : 0 ≤ bt s i ∧ bt s i < 256 := by have := bt_range s i; omega
set_option maxRecDepth 100000 in
set_option maxHeartbeats 4000000 in
theorem hex_c (s : ByteArray) (hs : s.size ≤ 1000000) (w : World) : Calls Tryd.prog 13 #[.string s] w fun e w' => e = .returned (.string (strOfNums (hexB (bytesOf s)))) ∧ Below w.heap.size w w' := by
  have Hs := Lib.hid hs
  have q2 : (s.size : Int) ≤ 9223372036854775807 := by omega
  obtain ⟨B, hB⟩ : ∃ B, B = w.heap.size := ⟨_, rfl⟩
  have HB := Lib.hid hB
  clear hs
  have hI : Lib.IsBuilder 60 5 B B (Lib.byteCells (u8s (hexB ((bytesOf s).take 0)))) (w.alloc (.cells #[.pointer none, .slice none 0 0] 60)) := by rw [hB]; exact Lib.fresh_isBuilder _ _ w
  go_enter Tryd.func13, Tryd.ntmps13
  go_wp2_with fail
  generalize hW : (World.alloc w _) = W at hI ⊢
  have hbel : Below B w W := by rw [← hW, hB]; exact below_alloc (Below.refl _ _) _
  rw [← hB]
  clear hW hB
  go_loopw [7] (fun v7 w' => ∃ i, i ≤ s.size ∧ v7 = .int .i64 (i : Nat) ∧ Aside0 (Lib.IsBuilder 60 5 B B (Lib.byteCells (u8s (hexB ((bytesOf s).take i)))) w') ∧ Aside0 (Below B w w')) (fun v7 _ => s.size - (intOf v7).toNat)
  case atStart => exact ⟨0, by omega, rfl, ⟨hI⟩, ⟨hbel⟩⟩
  case round =>
    clear hI hbel
    obtain ⟨i, hi, rfl, hI, hB⟩ := hrel
    by_cases hlt : i < s.size
    · have p1 : decide ((i : Int) < (s.size : Int)) = true := decide_eq_true (by omega)
      have hidx := fun W => run_index_str (P := Tryd.prog) W Tryd.underlying9 s .i64 (i : Int) (by omega) (by omega)
      obtain ⟨x, hx⟩ : ∃ x, x = bt s i := ⟨_, rfl⟩
      have hxb : 0 ≤ x ∧ x < 256 := by rw [hx]; exact bt_byte s i
      rw [← hx] at hidx
      have hd1 := fun W => hex_idx (x / 16) (by omega) .u8 W
      have hd2 := fun W => hex_idx (x % 16) (by omega) .u8 W
      have ha := and15 x hxb
      obtain ⟨y, hy⟩ : ∃ y, y = x / 16 := ⟨_, rfl⟩
      obtain ⟨z, hz⟩ : ∃ z, z = x % 16 := ⟨_, rfl⟩
      obtain ⟨d1, he1⟩ : ∃ d, d = DgsL.hx y := ⟨_, rfl⟩
      obtain ⟨d2, he2⟩ : ∃ d, d = DgsL.hx z := ⟨_, rfl⟩
      rw [← hy, ← he1] at hd1
      rw [← hz, ← he2] at hd2
      rw [← hz] at ha
      have hsum : hexB ((bytesOf s).take (i + 1)) = hexB ((bytesOf s).take i) ++ [d1] ++ [d2] := by
        rw [hexB_take _ _ (by rw [len_bytesOf]; exact hlt), he1, he2, hy, hz, hx, bt_rd, List.append_assoc]; rfl
      have hR1 : R (hexB ((bytesOf s).take i)) := R_hexB (R_take (R_bytesOf s) i)
      have hd1b : 0 ≤ d1 ∧ d1 < 256 := by rw [he1]; exact hx_byte y (by rw [hy]; omega)
      have hd2b : 0 ≤ d2 ∧ d2 < 256 := by rw [he2]; exact hx_byte z (by rw [hz]; omega)
      have hlen : (hexB ((bytesOf s).take i)).length ≤ 2000000 := by have h1 := Hs.out; rw [hexB_len, List.length_take]; omega
      obtain ⟨L, hL⟩ : ∃ L, L = hexB ((bytesOf s).take i) := ⟨_, rfl⟩
      rw [← hL] at hsum hR1 hlen hI
      rw [cells_u8s L hR1] at hI
      have HS := Lib.hid hsum
      have HLN := Lib.hid hlen
      have HR := Lib.hid hR1
      have HD1 := Lib.hid hd1b
      have HD2 := Lib.hid hd2b
      have W1 := Lib.hid fun W (hb : Lib.IsBuilder 60 5 B B (L.map (Value.int .u8)) W) (hw : Below B w W) => Tryd.Builder_WriteByte B B (L.map (Value.int .u8)) d1 W hb (by rw [List.length_map]; have := HLN.out; omega) (by rw [HB.out]; exact hw.size)
      have W2 := Lib.hid fun W (hb : Lib.IsBuilder 60 5 B B (L.map (Value.int .u8) ++ [.int .u8 d1]) W) (hw : Below B w W) => Tryd.Builder_WriteByte B B (L.map (Value.int .u8) ++ [.int .u8 d1]) d2 W hb (by rw [List.length_append, List.length_map]; have := HLN.out; simp; omega) (by rw [HB.out]; exact hw.size)
      clear hx hxb hL hlen hR1 hsum hd1b hd2b he1 he2
      have hy' : x / 16 = y := hy.symm
      clear hy hz
      go_wp2_with fail
      refine (W1.out _ hI.out hB.out).mono ?_
      rintro e w1 ⟨rfl, hb1, hw1⟩
      have HB1 := Lib.hid (hB.out.trans hw1)
      have HI1 : Hid (Lib.IsBuilder 60 5 B B (L.map (Value.int .u8) ++ [.int .u8 d1]) w1) := Lib.hid (.inr hb1)
      clear hb1 hw1 hI hB
      go_wp2_with fail
      refine (W2.out _ HI1.out HB1.out).mono ?_
      rintro e w2 ⟨rfl, hb2, hw2⟩
      have HB2 := Lib.hid (HB1.out.trans hw2)
      have HI2 : Hid (Lib.IsBuilder 60 5 B B (L.map (Value.int .u8) ++ [.int .u8 d1] ++ [.int .u8 d2]) w2) := Lib.hid (.inr hb2)
      clear hb2 hw2
      go_wp2_with fail
      refine ⟨⟨i + 1, hlt, by simp, ⟨?_⟩, ⟨HB2.out⟩⟩, by simp [intOf]; omega⟩
      rw [HS.out, cells_u8s _ (R_app (R_app HR.out (fun x hx => by simp at hx; subst hx; exact HD1.out)) (fun x hx => by simp at hx; subst hx; exact HD2.out)), List.map_append, List.map_append]
      exact HI2.out
    · have he : i = s.size := by omega
      subst he
      clear hlt hi
      rw [List.take_of_length_le (by rw [len_bytesOf]; exact Nat.le_refl _)] at hI
      have SB := Lib.hid fun W (hb : Lib.IsBuilder 60 5 B B (Lib.byteCells (u8s (hexB (bytesOf s)))) W) (hw : Below B w W) => Tryd.Builder_String_any B B _ W hb (by rw [HB.out]; exact hw.size)
      go_wp2_with fail
      refine (SB.out _ hI.out hB.out).mono ?_
      rintro e w1 ⟨rfl, hw1⟩
      have HB1 := Lib.hid (hB.out.trans hw1)
      clear hw1 hB hI
      go_wp2_with fail
      go_ret
      exact ⟨by rw [u8s_str]; rfl, by rw [← HB.out]; exact HB1.out⟩
end Go.Proofs.YtbphehijikdkjaaDoor.DgsX
