import Derived.Test.YtbmhfmkfkdbmdaaWWords
import Derived.Test.YtbmhfmkfkdbmdaaWMore
import Derived.WalkKit
import Derived.Handy
import Derived.WalkLawsBesides
import Derived.WalkSpells
import Derived.Lib.Hide
import Derived.Deep.QuietTactic
import Derived.BigQuiet
import Derived.Laws.BitsLemmas
section
/-
  Words of this session's own beside the printed ones: make with a capacity of its own.
-/
namespace Go.Proofs.Ytbmhfmkfkdbmdaa.HW
open Go.RowKit Go.Proofs.YtbmhfmkfkdbmdaaW.PrintWords
set_option linter.unusedVariables false
namespace Kd
open Go.Proofs.YtbmhfmkfkdbmdaaW.PrintWords.Kd
section
variable {P : Program} {ops : Array Oper} {rest : List Oper} {o : Oper} {a : Act} {Q : Exit → Act → World → Prop} {α : Type}
end
end Kd
end Go.Proofs.Ytbmhfmkfkdbmdaa.HW
end

section
/-
  Words of this session's own: worlds that have grown since a call began, and a region of open order whose operations leave the world alone and whose calls let it grow.
-/
namespace Go.Proofs.Ytbmhfmkfkdbmdaa.Cm
open Go.RowKit
set_option linter.unusedVariables false
/-- The world has grown since w0: what w0 had stands as it stood. -/
structure Calm (w0 w : World) : Prop where
  below : Below w0.heap.size w0 w
theorem Calm.refl (w : World) : Calm w w := ⟨Below.refl _ _⟩
theorem Calm.trans {a b c : World} (h : Calm a b) (k : Calm b c) : Calm a c := ⟨h.below.trans (k.below.mono h.below.size)⟩
theorem Calm.drew {a w : World} (h : Calm a w) : Calm a w.drew := ⟨h.below.drew⟩
theorem Calm.drewN {a w : World} (h : Calm a w) (n : Nat) : Calm a (w.drewN n) := by
  induction n with
  | zero => exact h
  | succ n ih => rw [← World.drew_drewN]; exact ih.drew
theorem Calm.alloc {a w : World} (h : Calm a w) (o : Obj) : Calm a (w.alloc o) := ⟨h.below.alloc h.below.size o⟩
theorem Calm.setCell {a w : World} (h : Calm a w) {p : Addr} (hp : a.heap.size ≤ p.block) (u : Value) : Calm a (w.setCell p u) := ⟨h.below.setCell hp u⟩
theorem Calm.call {P : Program} {f : FuncId} {args : Array Value} {w0 w : World} {v : Value} (hC : Calm w0 w)
    (h : Calls P f args w fun e w' => e = .returned v ∧ Below w.heap.size w w') : Calls P f args w fun e w' => e = .returned v ∧ Calm w0 w' :=
  h.mono fun _ _ ⟨he, hb⟩ => ⟨he, hC.trans ⟨hb⟩⟩
theorem wp_region_calm_lit {P : Program} {id : Nat} {Q : Exit → Act → World → Prop} {a : Act} {w : World} {l : List Oper} (w0 : World) (hm : P.follows .mixedOrders = true) (hB : Region.lexB .any l.toArray = true) (hC : Calm w0 w)
    (h : wpQuiet P l.toArray (Calm w0) (fun a' => ∀ w', Calm w0 w' → Q .normal a' w') l a) : (Code.region id l.toArray true).wp P Q a w :=
  wp_region_quiet (C := Calm w0) hm hB hC.drew (by simpa using h)
end Go.Proofs.Ytbmhfmkfkdbmdaa.Cm
end
