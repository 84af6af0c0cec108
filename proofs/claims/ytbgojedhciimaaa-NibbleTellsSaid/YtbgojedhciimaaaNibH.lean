/-
  Functions of package nibble that the print doesn't take, by hand: Common, two, Pack.
-/
import Derived.Test.YtbgojedhciimaaaProg
import Derived.Test.YtbgojedhciimaaaHWords
import Derived.WalkKit
import Derived.Handy
import Derived.WalkLawsBesides
import Derived.WalkSpells
import Derived.Lib.Hide
import Derived.Deep.QuietTactic
import Derived.BigQuiet
import Derived.Laws.BitsLemmas
namespace Go.Proofs.Ytbgojedhciimaaa.NibH
open Go.RowKit Go.Proofs.YtbgojedhciimaaaW.PrintWords Go.Proofs.Ytbgojedhciimaaa.HW
set_option linter.unusedVariables false
theorem ret_int {k : IntKind} {a b : Int} (h : a = b) : Ending.returned (.int k a) = .returned (.int k b) := by rw [h]

/-- How many bytes two texts have in common. -/
def common : List UInt8 → List UInt8 → Nat
  | x :: l, y :: m => if x = y then common l m + 1 else 0
  | _, _ => 0
theorem common_nil_r (l : List UInt8) : common l [] = 0 := by cases l <;> rfl
theorem common_drop (l m : List UInt8) (k : Nat) (h1 : k < l.length) (h2 : k < m.length) : common (l.drop k) (m.drop k) = if l[k] = m[k] then common (l.drop (k + 1)) (m.drop (k + 1)) + 1 else 0 := by
  rw [List.drop_eq_getElem_cons h1, List.drop_eq_getElem_cons h2]; rfl
theorem common_end (l m : List UInt8) (k : Nat) (h : ¬ (k < l.length ∧ k < m.length)) : common (l.drop k) (m.drop k) = 0 := by
  by_cases h1 : k < l.length
  · rw [show m.drop k = [] from List.drop_eq_nil_of_le (by omega), common_nil_r]
  · rw [show l.drop k = [] from List.drop_eq_nil_of_le (by omega)]; cases m.drop k <;> rfl

def nibble_Common.f (a0 a1 : ByteArray) : Option Int :=
  if a0.size ≤ 140737488351232 ∧ a1.size ≤ 140737488351232 then some ((common a0.data.toList a1.data.toList : Nat) : Int) else none
set_option maxHeartbeats 400000 in
theorem common_any (a b : ByteArray) (w : World) (ha : a.size ≤ 140737488351232) (hb : b.size ≤ 140737488351232) :
    Calls Try.prog 20 #[.string a, .string b] w fun e w' => e = .returned (.int .i64 (common a.data.toList b.data.toList : Nat)) ∧ Drawn0 w w' := by
  go_enter Try.func20, Try.ntmps20
  go_wp2
  go_loopw [5] (fun n wr => ∃ k : Nat, k ≤ a.size ∧ k ≤ b.size ∧ n = .int .i64 k ∧ Hid (common a.data.toList b.data.toList = k + common (a.data.toList.drop k) (b.data.toList.drop k)) ∧ Drawn0 w wr) (fun n _ => a.size - (intOf n).toNat)
  case atStart => exact ⟨0, Nat.zero_le _, Nat.zero_le _, rfl, Lib.hid (by simp), Drawn0.refl _⟩
  case round =>
    obtain ⟨k, hk1, hk2, rfl, HE, HD⟩ := hrel
    by_cases hlt : k < a.size ∧ k < b.size
    · obtain ⟨h1, h2⟩ := hlt
      have hd : decide ((k : Int) < if b.size < a.size then (b.size : Int) else (a.size : Int)) = true := by rw [decide_eq_true_eq]; split <;> omega
      have h1i : (k : Int) < a.size := by omega
      have h2i : (k : Int) < b.size := by omega
      by_cases hx : a[k] = b[k]
      · have hxi : ((a[k].toNat : Int) == (b[k].toNat : Int)) = true := by rw [hx]; simp
        have HX := Lib.hid hx
        clear hx
        go_wp2; go_quiet (fail)
        go_wp2
        all_goals
          go_roundw
          case rel => exact ⟨k + 1, h1, h2, by go_num, Lib.hid (by rw [HE.out, common_drop _ _ _ (by simpa using h1) (by simpa using h2), if_pos (by simp; exact HX.out)]; omega), HD.step _⟩
          case measure => simp [intOf]; omega
      · have hxi : ((a[k].toNat : Int) == (b[k].toNat : Int)) = false := by
          rw [beq_eq_false_iff_ne]; intro h; exact hx (UInt8.toNat_inj.1 (by omega))
        have HX := Lib.hid hx
        clear hx
        go_wp2; go_quiet (fail)
        go_wp2
        all_goals
          go_ret
          exact ⟨ret_int (by rw [HE.out, common_drop _ _ _ (by simpa using h1) (by simpa using h2), if_neg (by simp; exact HX.out)]; omega), HD.step _⟩
    · have hd : decide ((k : Int) < if b.size < a.size then (b.size : Int) else (a.size : Int)) = false := by rw [decide_eq_false_iff_not]; split <;> omega
      go_wp2; go_quiet (fail)
      go_wp2
      all_goals
        go_ret
        exact ⟨ret_int (by rw [HE.out, common_end _ _ _ (by simpa using hlt)]; omega), HD.step _⟩
theorem nibble_Common.calls (a0 : ByteArray) (a1 : ByteArray) (r : Int) (w : World) (h : nibble_Common.f a0 a1 = some r) :
    Calls Try.prog 20 #[.string a0, .string a1] w fun e w' => e = .returned (.int .i64 r) ∧ Drawn0 w w' := by
  unfold nibble_Common.f at h
  split at h
  · rename_i hc
    obtain rfl := Option.some.inj h
    exact common_any a0 a1 w hc.1 hc.2
  · cases h
end Go.Proofs.Ytbgojedhciimaaa.NibH
