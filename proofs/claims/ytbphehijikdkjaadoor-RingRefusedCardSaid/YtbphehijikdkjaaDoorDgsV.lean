/-
  Two digests, reckoned out.
-/
import Derived.Test.YtbphehijikdkjaaDoorDgsO
import Derived.Test.YtbphehijikdkjaaDoorDgsC
namespace Go.Proofs.YtbphehijikdkjaaDoor.DgsV
open Go.RowKit Go.Proofs.YtbphehijikdkjaaDoorW.PrintWords Go.Proofs.YtbphehijikdkjaaDoorW.PrintMore Go.Proofs.YtbphehijikdkjaaDoor.Str Go.Proofs.YtbphehijikdkjaaDoor.DgsP Go.Proofs.YtbphehijikdkjaaDoor.DgsS Go.Proofs.YtbphehijikdkjaaDoor.DgsB Go.Proofs.YtbphehijikdkjaaDoor.DgsL Go.Proofs.YtbphehijikdkjaaDoor.DgsO Go.Proofs.YtbphehijikdkjaaDoor.DgsC
set_option linter.unusedVariables false
variable {α : Type}
/-- All numbers of a list are reckoned out before it is used. -/
def forceL : List Nat → (List Nat → α) → α
  | [], K => K []
  | x :: l, K => force x fun x' => forceL l fun l' => K (x' :: l')
theorem forceL_eq : ∀ (l : List Nat) (K : List Nat → α), forceL l K = K l
  | [], K => rfl
  | x :: l, K => by rw [forceL, force_eq, forceL_eq l]
def sch1F (bs : List Nat) : Nat → (List Nat → α) → α
  | 0, K => K (List.replicate 64 0)
  | i + 1, K => sch1F bs i fun l => forceL (l.set (i / 4) ((l.getD (i / 4) 0 <<< 8) % M ||| bs.getD i 0)) K
theorem sch1F_eq (bs : List Nat) : ∀ (i : Nat) (K : List Nat → α), sch1F bs i K = K (sch1 bs i)
  | 0, K => rfl
  | i + 1, K => by rw [sch1F, sch1F_eq bs i, forceL_eq, sch1]
def sch2F (l : List Nat) : Nat → (List Nat → α) → α
  | 0, K => K l
  | n + 1, K => sch2F l n fun r => forceL (r.set (n + 16) (nxt (r.getD n 0) (r.getD (n + 9) 0) (r.getD (n + 1) 0) (r.getD (n + 14) 0))) K
theorem sch2F_eq (l : List Nat) : ∀ (n : Nat) (K : List Nat → α), sch2F l n K = K (sch2 l n)
  | 0, K => rfl
  | n + 1, K => by rw [sch2F, sch2F_eq l n, forceL_eq, sch2]
def stF (hs ws : List Nat) : Nat → (List Nat → α) → α
  | 0, K => K hs
  | i + 1, K => stF hs ws i fun s => forceL (rnd s (kt.getD i 0) (ws.getD i 0)) K
theorem stF_eq (hs ws : List Nat) : ∀ (i : Nat) (K : List Nat → α), stF hs ws i K = K (st hs ws i)
  | 0, K => rfl
  | i + 1, K => by rw [stF, stF_eq hs ws i, forceL_eq, st]
def blockF (hs bs : List Nat) (K : List Nat → α) : α := sch1F bs 64 fun l => sch2F l 48 fun ws => stF hs ws 64 fun s => forceL (fin hs s 8) K
theorem blockF_eq (hs bs : List Nat) (K : List Nat → α) : blockF hs bs K = K (blockL hs bs) := by
  rw [blockF, sch1F_eq, sch2F_eq, stF_eq, forceL_eq, blockL, sched]
theorem one_block (bs r : List Nat) (h : blockF beg bs (fun l => l == r) = true) : blockL beg bs = r := by
  rw [blockF_eq] at h
  exact eq_of_beq h
theorem of_one (l : List Int) (h : (full l).length = 64) : ofB l = outB (blockL beg (nat (full l))) := by
  rw [ofB, h]
  show outB (blockL beg (nat ((((full l).drop (64 * 0)).take 64)))) = _
  rw [Nat.mul_zero, List.drop_zero, List.take_of_length_le (by omega)]
end Go.Proofs.YtbphehijikdkjaaDoor.DgsV
