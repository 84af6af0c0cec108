/-
  The law NibbleTells, walked by hand over the contracts.
-/
import Derived.Test.YtbgojedhciimaaaNibC
namespace Go.Proofs.Ytbgojedhciimaaa.NibT
open Go.RowKit Go.Proofs.YtbgojedhciimaaaW.PrintWords Go.Proofs.Ytbgojedhciimaaa.PNib Go.Proofs.Ytbgojedhciimaaa.NibP Go.Proofs.Ytbgojedhciimaaa.Cm
open NibH (common)
open NibC (wakes_c)
set_option linter.unusedVariables false
theorem of_drawn {f : Nat} {args : Array Value} {w : World} {r : Value} (h : Calls Try.prog f args w fun e w' => e = .returned r ∧ Drawn0 w w') : Calls Try.prog f args w fun e w' => e = .returned r ∧ Below w.heap.size w w' :=
  h.mono fun _ _ ⟨he, hd⟩ => ⟨he, hd.below⟩
set_option maxHeartbeats 1000000 in
theorem walk (a b : ByteArray) (w : World) : Calls Try.prog 3 #[.string a, .string b] w fun e w' => e = .returned (.bool true) ∧ Below w.heap.size w w' := by
  have hC := Calm.refl w
  by_cases ha : a.size > 1000
  · have ha' : decide ((1000 : Int) < a.size) = true := by simp; omega
    go_enter Try.func3, Try.ntmps3
    go_wp2_with (go_at_call 11; refine ((Calm.call hC (wakes_c _)).mono ?_); rintro e w1 ⟨rfl, hC1⟩)
    go_ret
    exact ⟨rfl, hC1.below⟩
  · by_cases hb : b.size > 1000
    · have ha' : decide ((1000 : Int) < a.size) = false := by simp; omega
      have hb' : decide ((1000 : Int) < b.size) = true := by simp; omega
      go_enter Try.func3, Try.ntmps3
      go_wp2_with (go_at_call 11; refine ((Calm.call hC (wakes_c _)).mono ?_); rintro e w1 ⟨rfl, hC1⟩)
      go_ret
      exact ⟨rfl, hC1.below⟩
    · have ha' : decide ((1000 : Int) < a.size) = false := by simp; omega
      have hb' : decide ((1000 : Int) < b.size) = false := by simp; omega
      obtain ⟨⟨k, x⟩, hk⟩ : ∃ o, o = keyS a := ⟨_, rfl⟩
      obtain ⟨⟨p, y⟩, hp⟩ : ∃ o, o = packS a := ⟨_, rfl⟩
      obtain ⟨⟨n, u, z⟩, hn⟩ : ∃ o, o = unpS b := ⟨_, rfl⟩
      obtain ⟨o, ho⟩ : ∃ o, o = strOfNums (nibL (bytesOf b)) := ⟨_, rfl⟩
      obtain ⟨c, hc⟩ : ∃ o : Int, o = (common a.data.toList b.data.toList : Nat) := ⟨_, rfl⟩
      obtain ⟨g, hg⟩ : ∃ o, o = goodL (bytesOf a) := ⟨_, rfl⟩
      have C1 := Lib.hid fun W => nibble_Key.calls 5000 a k x W (by rw [key_f a (by omega) _ (by omega), hk])
      have C2 := Lib.hid fun W => nibble_Pack.calls 5000 a p y W (by rw [pack_f a (by omega) _ (by omega), hp])
      have C3 := Lib.hid fun W => nibble_Unpack.calls 5000 b n u z W (by rw [unp_f b (by omega) _ (by omega), hn])
      have C4 := Lib.hid fun W => umbelref02_Key.calls 5000 a k x W (by rw [ref_key_f a (by omega) _ (by omega), hk])
      have C5 := Lib.hid fun W => umbelref02_Pack.calls 5000 a p y W (by rw [ref_pack_f a (by omega) _ (by omega), hp])
      have C6 := Lib.hid fun W => umbelref02_Unpack.calls 5000 b n u z W (by rw [ref_unp_f b (by omega) _ (by omega), hn])
      have D1 := Lib.hid fun W => nibble_Of.calls 5000 b o W (by rw [of_f b (by omega) _ (by omega), ho])
      have D2 := Lib.hid fun W => umbelref02_Of.calls 5000 b o W (by rw [ref_of_f b (by omega) _ (by omega), ho])
      have D3 := Lib.hid fun W => of_drawn (nibble_Common.calls a b c W (by rw [common_f a b (by omega) (by omega), hc]))
      have D4 := Lib.hid fun W => of_drawn (umbelref02_Common.calls 5000 a b c W (by rw [ref_common_f a b (by omega) _ (by omega), hc]))
      have D5 := Lib.hid fun W => nibble_Good.calls 5000 a g W (by rw [good_f a (by omega) _ (by omega), hg])
      have D6 := Lib.hid fun W => of_drawn (umbelref02_Good.calls 5000 a g W (by rw [ref_good_f a (by omega) _ (by omega), hg]))
      have e1 : (o.toList == o.toList) = true := by simp
      have e2 : (k.toList == k.toList) = true := by simp
      have e3 : (x == x) = true := by simp
      have e4 : (p.toList == p.toList) = true := by simp
      have e5 : (y == y) = true := by simp
      have e6 : (n.toList == n.toList) = true := by simp
      have e7 : (u == u) = true := by simp
      have e8 : (z == z) = true := by simp
      have e9 : (c == c) = true := by simp
      have e10 : (g == g) = true := by simp
      clear hk hp hn ho hc hg
      have hfd28_0 : ∀ (x0_ x1_ : Value) (W : World), (Instr.field 28 (.agg #[x0_, x1_]) 0).run Try.prog W = .ok (x0_) W := fun x0_ x1_ W => by kernel_rfl
      go_enter Try.func3, Try.ntmps3
      go_wp2_with fail
      refine ((Calm.call hC (C1.out _)).mono ?_); rintro e w1 ⟨rfl, hC1⟩
      go_wp2_with fail
      refine ((Calm.call hC1 (C2.out _)).mono ?_); rintro e w2 ⟨rfl, hC2⟩
      go_wp2_with fail
      refine ((Calm.call hC2 (C3.out _)).mono ?_); rintro e w3 ⟨rfl, hC3⟩
      go_wp2_with fail
      refine ((Calm.call hC3 (C4.out _)).mono ?_); rintro e w4 ⟨rfl, hC4⟩
      go_wp2_with fail
      refine ((Calm.call hC4 (C5.out _)).mono ?_); rintro e w5 ⟨rfl, hC5⟩
      go_wp2_with fail
      refine ((Calm.call hC5 (C6.out _)).mono ?_); rintro e w6 ⟨rfl, hC6⟩
      go_wp2_with fail
      clear hC hC1 hC2 hC3 hC4 hC5
      have hA := ((hC6.alloc (Obj.cells #[Value.string k, Value.bool x] 28)).alloc (Obj.cells #[Value.string p, Value.bool y] 28)).alloc (Obj.cells #[Value.string n, Value.int IntKind.i64 u, Value.bool z] 31)
      obtain ⟨W, hW⟩ : ∃ W, W = ((w6.alloc (Obj.cells #[Value.string k, Value.bool x] 28)).alloc (Obj.cells #[Value.string p, Value.bool y] 28)).alloc (Obj.cells #[Value.string n, Value.int IntKind.i64 u, Value.bool z] 31) := ⟨_, rfl⟩
      rw [← hW] at hA ⊢
      have l0 : W.cell? { block := w6.heap.size, off := 0 } = some (.string k) := by rw [hW]; simp [go_sem]
      have l1 : W.cell? { block := w6.heap.size, off := 1 } = some (.bool x) := by rw [hW]; simp [go_sem]
      have l2 : W.cell? { block := w6.heap.size + 1, off := 0 } = some (.string p) := by rw [hW]; simp [go_sem]
      have l3 : W.cell? { block := w6.heap.size + 1, off := 1 } = some (.bool y) := by rw [hW]; simp [go_sem]
      have l4 : W.cell? { block := w6.heap.size + 1 + 1, off := 0 } = some (.string n) := by rw [hW]; simp [go_sem]
      have l5 : W.cell? { block := w6.heap.size + 1 + 1, off := 1 } = some (.int .i64 u) := by rw [hW]; simp [go_sem]
      have l6 : W.cell? { block := w6.heap.size + 1 + 1, off := 2 } = some (.bool z) := by rw [hW]; simp [go_sem]
      have sz : w6.heap.size + 3 = W.heap.size := by rw [hW]; simp [go_sem]
      refine ((D1.out _).mono ?_); rintro e w7 ⟨rfl, hB7⟩
      go_wp2_with fail
      refine ((D2.out _).mono ?_); rintro e w8 ⟨rfl, hB8⟩
      have hB := hB7.trans (hB8.mono hB7.size)
      have m0 := (hB.cell (p := { block := w6.heap.size, off := 0 }) (by show w6.heap.size < _; omega)).trans l0
      have m1 := (hB.cell (p := { block := w6.heap.size, off := 1 }) (by show w6.heap.size < _; omega)).trans l1
      have m2 := (hB.cell (p := { block := w6.heap.size + 1, off := 0 }) (by show w6.heap.size + 1 < _; omega)).trans l2
      have m3 := (hB.cell (p := { block := w6.heap.size + 1, off := 1 }) (by show w6.heap.size + 1 < _; omega)).trans l3
      have m4 := (hB.cell (p := { block := w6.heap.size + 1 + 1, off := 0 }) (by show w6.heap.size + 1 + 1 < _; omega)).trans l4
      have m5 := (hB.cell (p := { block := w6.heap.size + 1 + 1, off := 1 }) (by show w6.heap.size + 1 + 1 < _; omega)).trans l5
      have m6 := (hB.cell (p := { block := w6.heap.size + 1 + 1, off := 2 }) (by show w6.heap.size + 1 + 1 < _; omega)).trans l6
      clear l0 l1 l2 l3 l4 l5 l6
      have hC8 : Cm.Calm w w8 := hA.trans ⟨hB⟩
      go_wp2_with fail
      refine ((Calm.call hC8 (D3.out _)).mono ?_); rintro e w9 ⟨rfl, hC9⟩
      clear m0 m1 m2 m3 m4 m5 m6
      go_wp2_with fail
      refine ((Calm.call hC9 (D4.out _)).mono ?_); rintro e w10 ⟨rfl, hC10⟩
      go_wp2_with fail
      refine ((Calm.call hC10 (D5.out _)).mono ?_); rintro e w11 ⟨rfl, hC11⟩
      go_wp2_with fail
      refine ((Calm.call hC11 (D6.out _)).mono ?_); rintro e w12 ⟨rfl, hC12⟩
      go_wp2_with fail
      refine ((Calm.call hC12 (wakes_c _)).mono ?_); rintro e w13 ⟨rfl, hC13⟩
      go_wp2
      go_ret
      exact ⟨rfl, hC13.below⟩
end Go.Proofs.Ytbgojedhciimaaa.NibT
