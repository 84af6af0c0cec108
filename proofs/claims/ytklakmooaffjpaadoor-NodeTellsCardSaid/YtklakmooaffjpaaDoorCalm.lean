import Derived.Test.YtklakmooaffjpaaDoorPNorx0
import Derived.Test.YtklakmooaffjpaaDoorPNorx1
import Derived.Shelf.Strings.OnBuilder
import Derived.Shelf.SlicesE.IndexFunc
import Derived.Test.YtklakmooaffjpaaDoorProg
import Derived.Below
import Derived.Deep.Draws
import Derived.Deep.AppendLies
import Derived.Maps.AppendAt
import Derived.OwnWalk
import Derived.Laws.BytesArg
import Derived.Laws.MakeOwn
import Derived.Laws.OwnMore
import Derived.Deep.OwnRows
import Derived.Tactics
import Derived.Lib.ConvBytes
import Derived.Laws.Slices
import Derived.WalkKit
import Derived.KernelRfl
import Derived.RowKit3
import Derived.Deep.LoopGhost
import Derived.Deep.QuietTactic
import Derived.BigQuiet
import Derived.WideLaws
import Derived.Deep.DeepCutAuto
import Derived.Deep.CutBlock
import Derived.Deep.RegionHeld3
import Derived.Laws.Rows
import Derived.Lib.AppendStr
import Derived.ArgAppend
import Derived.Laws.IdiomCopy
import Derived.OrdersHeld
import Derived.Laws.BitsLemmas
import Derived.RowKit
import Derived.Test.YtklakmooaffjpaaDoorWWords
import Derived.Test.YtklakmooaffjpaaDoorWNEv
import Derived.Test.YtklakmooaffjpaaDoorWGuard
import Derived.Test.YtklakmooaffjpaaDoorWMore
import Derived.Test.YtklakmooaffjpaaDoorSQ
import Derived.Handy
import Derived.WalkLawsBesides
import Derived.WalkSpells
import Derived.Lib.Hide
section
-- Written by a program of this session for this seat. Not trusted: Lean checks it.
namespace Go.Proofs.YtklakmooaffjpaaDoor.PNor
open Go.RowKit Go.Proofs.YtklakmooaffjpaaDoorW.PrintWords Go.Proofs.YtklakmooaffjpaaDoorW.PrintLast Go.Proofs.YtklakmooaffjpaaDoorW.PrintMore
attribute [local go_sem] max2_int min2_int max_two min_two max_three min_three max_four min_four   -- for this text's walks alone
set_option linter.unusedVariables false
set_option linter.unusedSimpArgs false
open Go.Proofs.YtklakmooaffjpaaDoor.HW

end Go.Proofs.YtklakmooaffjpaaDoor.PNor
end

section
/-
  The library contracts of strings.Join and slices.ContainsFunc, laid at this program.
-/
namespace Go.Proofs
open Go.Shelf
def Tryd.lays156_ren : Go.Shelf.Ren := ⟨fun | 156 => 22 | 165 => 36 | 166 => 37 | 169 => 38 | 240 => 53 | 241 => 54 | 276 => 65 | 277 => 66 | n => n, fun | 31 => 22 | 9 => 9 | 3 => 3 | 4 => 4 | 0 => 0 | 20 => 20 | 72 => 65 | 76 => 69 | 70 => 63 | 37 => 42 | 75 => 68 | 127 => 87 | 164 => 97 | 5 => 5 | 80 => 71 | n => n, fun | n => n⟩
theorem Tryd.lays156 : Go.Proofs.Lays.n156 Tryd.prog Tryd.lays156_ren := {
  mixed := by kernel_rfl
  f156 := Tryd.func22.trans (congrArg some (by kernel_rfl))
  f165 := Tryd.func36.trans (congrArg some (by kernel_rfl))
  f166 := Tryd.func37.trans (congrArg some (by kernel_rfl))
  f169 := Tryd.func38.trans (congrArg some (by kernel_rfl))
  f240 := Tryd.func53.trans (congrArg some (by kernel_rfl))
  f241 := Tryd.func54.trans (congrArg some (by kernel_rfl))
  f276 := Tryd.func65.trans (congrArg some (by kernel_rfl))
  f277 := Tryd.func66.trans (congrArg some (by kernel_rfl))
  t0 := Tryd.underlying0
  a0 := Tryd.isAgg0
  z0 := Tryd.sizeOf0
  v0 := Tryd.zeroValue0
  t3 := Tryd.underlying3
  a3 := Tryd.isAgg3
  z3 := Tryd.sizeOf3
  v3 := Tryd.zeroValue3
  t4 := Tryd.underlying4
  a4 := Tryd.isAgg4
  z4 := Tryd.sizeOf4
  v4 := Tryd.zeroValue4
  t9 := Tryd.underlying9
  a9 := Tryd.isAgg9
  z9 := Tryd.sizeOf9
  v9 := Tryd.zeroValue9
  t20 := Tryd.underlying20
  a20 := Tryd.isAgg20
  z20 := Tryd.sizeOf20
  v20 := Tryd.zeroValue20
  t31 := Tryd.underlying22
  a31 := Tryd.isAgg22
  z31 := Tryd.sizeOf22
  v31 := Tryd.zeroValue22
  t37 := Tryd.underlying42
  a37 := Tryd.isAgg42
  z37 := Tryd.sizeOf42
  v37 := Tryd.zeroValue42
  t70 := Tryd.underlying63
  a70 := Tryd.isAgg63
  z70 := Tryd.sizeOf63
  v70 := Tryd.zeroValue63
  t72 := Tryd.underlying65
  a72 := Tryd.isAgg65
  z72 := Tryd.sizeOf65
  v72 := Tryd.zeroValue65
  t75 := Tryd.underlying68
  a75 := Tryd.isAgg68
  z75 := Tryd.sizeOf68
  v75 := Tryd.zeroValue68
  t76 := Tryd.underlying69
  a76 := Tryd.isAgg69
  z76 := Tryd.sizeOf69
  v76 := Tryd.zeroValue69
  t127 := Tryd.underlying87
  a127 := Tryd.isAgg87
  z127 := Tryd.sizeOf87
  v127 := Tryd.zeroValue87
  t164 := Tryd.underlying97
  a164 := Tryd.isAgg97
  z164 := Tryd.sizeOf97
  v164 := Tryd.zeroValue97 }
theorem Tryd.Builder_Extra_156 : Builder.Extra Tryd.prog Tryd.lays156_ren := {
  sizeBuilder := by kernel_rfl
  liesBuilder := by kernel_rfl
  t5 := Tryd.underlying5
  a5 := Tryd.isAgg5
  z5 := Tryd.sizeOf5
  v5 := Tryd.zeroValue5
  infoByte := by kernel_rfl
  cellsByte := by kernel_rfl
  sizeByte := by kernel_rfl
  neB5 := by decide }
open Go.RowKit in
/-- No element: the empty string; the world is as it was. (Whatever the slice's address and capacity: a nil slice too.) (LAID: no walk: one application.) -/
theorem Tryd.strings_Join_none (a : Option Addr) (c : Nat) (sep : ByteArray) (w : World) :
    Calls Tryd.prog 22 #[.slice a 0 c, .string sep] w fun e w' => e = .returned (.string ⟨#[]⟩) ∧ w' = w := Any.strings_Join_none Tryd.lays156 Tryd.Builder_Extra_156 a c sep w
open Go.RowKit in
/-- strings.Join: "Join concatenates the elements of its first argument to create a single string. The separator string sep is placed between elements in the resulting string.": HOWEVER MANY ELEMENTS. Below the heap's end the world is as it was. (LAID: no walk: one application.) -/
theorem Tryd.strings_Join (bk o c : Nat) (xs : List ByteArray) (sep : ByteArray) (w : World) (hcells : ∀ (j : Nat) x, xs[j]? = some x → w.cell? ⟨bk, o + j, none⟩ = some (.string x)) (hbk : bk < w.heap.size) (hN : xs.length ≤ 140737488355328) (hcap : xs.length ≤ c) (hlen : (Lib.join (xs.map (·.data.toList)) sep.data.toList).length ≤ 140737488355328) :
    Calls Tryd.prog 22 #[.slice (some ⟨bk, o, none⟩) xs.length c, .string sep] w fun e w' => e = .returned (.string ⟨(Lib.join (xs.map (·.data.toList)) sep.data.toList).toArray⟩) ∧ Below w.heap.size w w' := Any.strings_Join Tryd.lays156 Tryd.Builder_Extra_156 bk o c xs sep w hcells hbk hN hcap hlen
def Tryd.laysSlH8_f45_ren : Go.Shelf.Ren := ⟨fun | 8 => 45 | 6 => 58 | n => n, fun | 22 => 22 | 23 => 9 | 25 => 50 | 4 => 4 | 3 => 3 | 0 => 0 | n => n, fun | n => n⟩
theorem Tryd.laysSlH8_f45 : Go.Proofs.SlLaysH.n8 Tryd.prog Tryd.laysSlH8_f45_ren := {
  mixed := by kernel_rfl
  f6 := ⟨Tryd.f58.name, by decide, Tryd.func58.trans (congrArg some (by kernel_rfl))⟩
  f8 := ⟨Tryd.f45.name, by decide, Tryd.func45.trans (congrArg some (by kernel_rfl))⟩
  t0 := Tryd.underlying0
  a0 := Tryd.isAgg0
  z0 := Tryd.sizeOf0
  v0 := Tryd.zeroValue0
  t3 := Tryd.underlying3
  a3 := Tryd.isAgg3
  z3 := Tryd.sizeOf3
  v3 := Tryd.zeroValue3
  t4 := Tryd.underlying4
  a4 := Tryd.isAgg4
  z4 := Tryd.sizeOf4
  v4 := Tryd.zeroValue4
  t22 := Tryd.underlying22
  a22 := Tryd.isAgg22
  z22 := Tryd.sizeOf22
  v22 := Tryd.zeroValue22
  a23 := Tryd.isAgg9
  z23 := Tryd.sizeOf9
  t25 := Tryd.underlying50
  a25 := Tryd.isAgg50
  z25 := Tryd.sizeOf50
  v25 := Tryd.zeroValue50 }
open Go.RowKit Go.Lib in
/-- slices.ContainsFunc: "ContainsFunc reports whether at least one element e of s satisfies f(e).": ITS CALLEE slices.IndexFunc IS MET BY ITS OWN CONTRACT. (LAID AT THE INSTANCE 'slices.ContainsFunc[[]string,string]': no walk: one application.) -/
theorem Tryd.slices_ContainsFunc {α : Type} [Inhabited α] (enc : α → Value) (p : α → Bool) (g : Nat) (lb : Array Value) (eg : ∀ args w, (callFunc g args).run Tryd.prog w = .ok (.enter g args) w) (b off n c : Nat) (zs : List α) (w : World) (hp : PredAt Tryd.prog g lb enc p w) (hz : n ≤ zs.length) (hbig : n ≤ 9223372036854775807) (hc : ∀ j, j < zs.length → w.cell? ⟨b, off + j, none⟩ = some (enc zs[j]!)) :
    Calls Tryd.prog 45 #[.slice (some ⟨b, off, none⟩) n c, .func (.func g) #[] lb] w fun e w' => e = .returned (.bool ((zs.take n).any p)) ∧ ∃ q, w' = w.drewN q := AnyE.slices_ContainsFunc Tryd.laysSlH8_f45 enc p g lb eg b off n c zs w hp hz hbig hc
open Go.RowKit Go.Lib in
/-- The same at a slice of length 0, a nil one too. (LAID AT THE INSTANCE 'slices.ContainsFunc[[]string,string]': no walk: one application.) -/
theorem Tryd.slices_ContainsFunc_empty {α : Type} [Inhabited α] (a : Option Addr) (c : Nat) (fv : Value) (w : World) :
    Calls Tryd.prog 45 #[.slice a 0 c, fv] w fun e w' => e = .returned (.bool false) ∧ w' = w := AnyE.slices_ContainsFunc_empty Tryd.laysSlH8_f45 a c fv w
end Go.Proofs
end

section
-- Written by a program of this session for this seat. Not trusted: Lean checks it.
namespace Go.Proofs.YtklakmooaffjpaaDoor.PNoz
open Go.RowKit Go.Proofs.YtklakmooaffjpaaDoorW.PrintWords Go.Proofs.YtklakmooaffjpaaDoorW.PrintLast Go.Proofs.YtklakmooaffjpaaDoorW.PrintMore
attribute [local go_sem] max2_int min2_int max_two min_two max_three min_three max_four min_four   -- for this text's walks alone
set_option linter.unusedVariables false
set_option linter.unusedSimpArgs false
open Go.Proofs.YtklakmooaffjpaaDoor.HW



def errW : Option Int → Value
 | none => .nilIface
 | some c => .iface 0 (.int .i64 c)
theorem errW_none : errW none = .nilIface := rfl
theorem errW_some (c : Int) : errW (some c) = .iface 0 (.int .i64 c) := rfl

-- the values' own types

end Go.Proofs.YtklakmooaffjpaaDoor.PNoz
end

section
-- Written by a program of this session for this seat. Not trusted: Lean checks it.
namespace Go.Proofs.YtklakmooaffjpaaDoor.PNoz
open Go.RowKit Go.Proofs.YtklakmooaffjpaaDoorW.PrintWords Go.Proofs.YtklakmooaffjpaaDoorW.PrintLast Go.Proofs.YtklakmooaffjpaaDoorW.PrintMore
attribute [local go_sem] max2_int min2_int max_two min_two max_three min_three max_four min_four   -- for this text's walks alone
set_option linter.unusedVariables false
set_option linter.unusedSimpArgs false
open Go.Proofs.YtklakmooaffjpaaDoor.HW

/-! ### bits_OnesCount32: function 56 -/
/-! ### bits_OnesCount64: function 57 -/
def bits_OnesCount64.f (a0 : Int) : Option (Int) := some (Go.bits .and .i64 (wrap64 (IntKind.u64.wrap ((IntKind.u64.wrap ((IntKind.u64.wrap ((Go.bits .and .u64 (IntKind.u64.wrap (((IntKind.u64.wrap ((Go.bits .and .u64 ((IntKind.u64.wrap ((Go.bits .and .u64 (a0 / 2) 6148914691236517205) + (Go.bits .and .u64 a0 6148914691236517205))) / 4) 3689348814741910323) + (Go.bits .and .u64 (IntKind.u64.wrap ((Go.bits .and .u64 (a0 / 2) 6148914691236517205) + (Go.bits .and .u64 a0 6148914691236517205))) 3689348814741910323))) / 16) + (IntKind.u64.wrap ((Go.bits .and .u64 ((IntKind.u64.wrap ((Go.bits .and .u64 (a0 / 2) 6148914691236517205) + (Go.bits .and .u64 a0 6148914691236517205))) / 4) 3689348814741910323) + (Go.bits .and .u64 (IntKind.u64.wrap ((Go.bits .and .u64 (a0 / 2) 6148914691236517205) + (Go.bits .and .u64 a0 6148914691236517205))) 3689348814741910323))))) 1085102592571150095) + ((Go.bits .and .u64 (IntKind.u64.wrap (((IntKind.u64.wrap ((Go.bits .and .u64 ((IntKind.u64.wrap ((Go.bits .and .u64 (a0 / 2) 6148914691236517205) + (Go.bits .and .u64 a0 6148914691236517205))) / 4) 3689348814741910323) + (Go.bits .and .u64 (IntKind.u64.wrap ((Go.bits .and .u64 (a0 / 2) 6148914691236517205) + (Go.bits .and .u64 a0 6148914691236517205))) 3689348814741910323))) / 16) + (IntKind.u64.wrap ((Go.bits .and .u64 ((IntKind.u64.wrap ((Go.bits .and .u64 (a0 / 2) 6148914691236517205) + (Go.bits .and .u64 a0 6148914691236517205))) / 4) 3689348814741910323) + (Go.bits .and .u64 (IntKind.u64.wrap ((Go.bits .and .u64 (a0 / 2) 6148914691236517205) + (Go.bits .and .u64 a0 6148914691236517205))) 3689348814741910323))))) 1085102592571150095) / 256))) + ((IntKind.u64.wrap ((Go.bits .and .u64 (IntKind.u64.wrap (((IntKind.u64.wrap ((Go.bits .and .u64 ((IntKind.u64.wrap ((Go.bits .and .u64 (a0 / 2) 6148914691236517205) + (Go.bits .and .u64 a0 6148914691236517205))) / 4) 3689348814741910323) + (Go.bits .and .u64 (IntKind.u64.wrap ((Go.bits .and .u64 (a0 / 2) 6148914691236517205) + (Go.bits .and .u64 a0 6148914691236517205))) 3689348814741910323))) / 16) + (IntKind.u64.wrap ((Go.bits .and .u64 ((IntKind.u64.wrap ((Go.bits .and .u64 (a0 / 2) 6148914691236517205) + (Go.bits .and .u64 a0 6148914691236517205))) / 4) 3689348814741910323) + (Go.bits .and .u64 (IntKind.u64.wrap ((Go.bits .and .u64 (a0 / 2) 6148914691236517205) + (Go.bits .and .u64 a0 6148914691236517205))) 3689348814741910323))))) 1085102592571150095) + ((Go.bits .and .u64 (IntKind.u64.wrap (((IntKind.u64.wrap ((Go.bits .and .u64 ((IntKind.u64.wrap ((Go.bits .and .u64 (a0 / 2) 6148914691236517205) + (Go.bits .and .u64 a0 6148914691236517205))) / 4) 3689348814741910323) + (Go.bits .and .u64 (IntKind.u64.wrap ((Go.bits .and .u64 (a0 / 2) 6148914691236517205) + (Go.bits .and .u64 a0 6148914691236517205))) 3689348814741910323))) / 16) + (IntKind.u64.wrap ((Go.bits .and .u64 ((IntKind.u64.wrap ((Go.bits .and .u64 (a0 / 2) 6148914691236517205) + (Go.bits .and .u64 a0 6148914691236517205))) / 4) 3689348814741910323) + (Go.bits .and .u64 (IntKind.u64.wrap ((Go.bits .and .u64 (a0 / 2) 6148914691236517205) + (Go.bits .and .u64 a0 6148914691236517205))) 3689348814741910323))))) 1085102592571150095) / 256))) / 65536))) + ((IntKind.u64.wrap ((IntKind.u64.wrap ((Go.bits .and .u64 (IntKind.u64.wrap (((IntKind.u64.wrap ((Go.bits .and .u64 ((IntKind.u64.wrap ((Go.bits .and .u64 (a0 / 2) 6148914691236517205) + (Go.bits .and .u64 a0 6148914691236517205))) / 4) 3689348814741910323) + (Go.bits .and .u64 (IntKind.u64.wrap ((Go.bits .and .u64 (a0 / 2) 6148914691236517205) + (Go.bits .and .u64 a0 6148914691236517205))) 3689348814741910323))) / 16) + (IntKind.u64.wrap ((Go.bits .and .u64 ((IntKind.u64.wrap ((Go.bits .and .u64 (a0 / 2) 6148914691236517205) + (Go.bits .and .u64 a0 6148914691236517205))) / 4) 3689348814741910323) + (Go.bits .and .u64 (IntKind.u64.wrap ((Go.bits .and .u64 (a0 / 2) 6148914691236517205) + (Go.bits .and .u64 a0 6148914691236517205))) 3689348814741910323))))) 1085102592571150095) + ((Go.bits .and .u64 (IntKind.u64.wrap (((IntKind.u64.wrap ((Go.bits .and .u64 ((IntKind.u64.wrap ((Go.bits .and .u64 (a0 / 2) 6148914691236517205) + (Go.bits .and .u64 a0 6148914691236517205))) / 4) 3689348814741910323) + (Go.bits .and .u64 (IntKind.u64.wrap ((Go.bits .and .u64 (a0 / 2) 6148914691236517205) + (Go.bits .and .u64 a0 6148914691236517205))) 3689348814741910323))) / 16) + (IntKind.u64.wrap ((Go.bits .and .u64 ((IntKind.u64.wrap ((Go.bits .and .u64 (a0 / 2) 6148914691236517205) + (Go.bits .and .u64 a0 6148914691236517205))) / 4) 3689348814741910323) + (Go.bits .and .u64 (IntKind.u64.wrap ((Go.bits .and .u64 (a0 / 2) 6148914691236517205) + (Go.bits .and .u64 a0 6148914691236517205))) 3689348814741910323))))) 1085102592571150095) / 256))) + ((IntKind.u64.wrap ((Go.bits .and .u64 (IntKind.u64.wrap (((IntKind.u64.wrap ((Go.bits .and .u64 ((IntKind.u64.wrap ((Go.bits .and .u64 (a0 / 2) 6148914691236517205) + (Go.bits .and .u64 a0 6148914691236517205))) / 4) 3689348814741910323) + (Go.bits .and .u64 (IntKind.u64.wrap ((Go.bits .and .u64 (a0 / 2) 6148914691236517205) + (Go.bits .and .u64 a0 6148914691236517205))) 3689348814741910323))) / 16) + (IntKind.u64.wrap ((Go.bits .and .u64 ((IntKind.u64.wrap ((Go.bits .and .u64 (a0 / 2) 6148914691236517205) + (Go.bits .and .u64 a0 6148914691236517205))) / 4) 3689348814741910323) + (Go.bits .and .u64 (IntKind.u64.wrap ((Go.bits .and .u64 (a0 / 2) 6148914691236517205) + (Go.bits .and .u64 a0 6148914691236517205))) 3689348814741910323))))) 1085102592571150095) + ((Go.bits .and .u64 (IntKind.u64.wrap (((IntKind.u64.wrap ((Go.bits .and .u64 ((IntKind.u64.wrap ((Go.bits .and .u64 (a0 / 2) 6148914691236517205) + (Go.bits .and .u64 a0 6148914691236517205))) / 4) 3689348814741910323) + (Go.bits .and .u64 (IntKind.u64.wrap ((Go.bits .and .u64 (a0 / 2) 6148914691236517205) + (Go.bits .and .u64 a0 6148914691236517205))) 3689348814741910323))) / 16) + (IntKind.u64.wrap ((Go.bits .and .u64 ((IntKind.u64.wrap ((Go.bits .and .u64 (a0 / 2) 6148914691236517205) + (Go.bits .and .u64 a0 6148914691236517205))) / 4) 3689348814741910323) + (Go.bits .and .u64 (IntKind.u64.wrap ((Go.bits .and .u64 (a0 / 2) 6148914691236517205) + (Go.bits .and .u64 a0 6148914691236517205))) 3689348814741910323))))) 1085102592571150095) / 256))) / 65536))) / 4294967296)))) 127)
set_option maxHeartbeats 8000000 in
set_option maxRecDepth 100000 in
theorem bits_OnesCount64.calls (a0 : Int) (r : Int) (w : World) (h : bits_OnesCount64.f a0 = some r) :
  Calls Tryd.prog 57 #[.int .u64 a0] w fun e w' => e = .returned (.int .i64 r) ∧ Drawn0 w w' := by
 have H : (some (Go.bits .and .i64 (wrap64 (IntKind.u64.wrap ((IntKind.u64.wrap ((IntKind.u64.wrap ((Go.bits .and .u64 (IntKind.u64.wrap (((IntKind.u64.wrap ((Go.bits .and .u64 ((IntKind.u64.wrap ((Go.bits .and .u64 (a0 / 2) 6148914691236517205) + (Go.bits .and .u64 a0 6148914691236517205))) / 4) 3689348814741910323) + (Go.bits .and .u64 (IntKind.u64.wrap ((Go.bits .and .u64 (a0 / 2) 6148914691236517205) + (Go.bits .and .u64 a0 6148914691236517205))) 3689348814741910323))) / 16) + (IntKind.u64.wrap ((Go.bits .and .u64 ((IntKind.u64.wrap ((Go.bits .and .u64 (a0 / 2) 6148914691236517205) + (Go.bits .and .u64 a0 6148914691236517205))) / 4) 3689348814741910323) + (Go.bits .and .u64 (IntKind.u64.wrap ((Go.bits .and .u64 (a0 / 2) 6148914691236517205) + (Go.bits .and .u64 a0 6148914691236517205))) 3689348814741910323))))) 1085102592571150095) + ((Go.bits .and .u64 (IntKind.u64.wrap (((IntKind.u64.wrap ((Go.bits .and .u64 ((IntKind.u64.wrap ((Go.bits .and .u64 (a0 / 2) 6148914691236517205) + (Go.bits .and .u64 a0 6148914691236517205))) / 4) 3689348814741910323) + (Go.bits .and .u64 (IntKind.u64.wrap ((Go.bits .and .u64 (a0 / 2) 6148914691236517205) + (Go.bits .and .u64 a0 6148914691236517205))) 3689348814741910323))) / 16) + (IntKind.u64.wrap ((Go.bits .and .u64 ((IntKind.u64.wrap ((Go.bits .and .u64 (a0 / 2) 6148914691236517205) + (Go.bits .and .u64 a0 6148914691236517205))) / 4) 3689348814741910323) + (Go.bits .and .u64 (IntKind.u64.wrap ((Go.bits .and .u64 (a0 / 2) 6148914691236517205) + (Go.bits .and .u64 a0 6148914691236517205))) 3689348814741910323))))) 1085102592571150095) / 256))) + ((IntKind.u64.wrap ((Go.bits .and .u64 (IntKind.u64.wrap (((IntKind.u64.wrap ((Go.bits .and .u64 ((IntKind.u64.wrap ((Go.bits .and .u64 (a0 / 2) 6148914691236517205) + (Go.bits .and .u64 a0 6148914691236517205))) / 4) 3689348814741910323) + (Go.bits .and .u64 (IntKind.u64.wrap ((Go.bits .and .u64 (a0 / 2) 6148914691236517205) + (Go.bits .and .u64 a0 6148914691236517205))) 3689348814741910323))) / 16) + (IntKind.u64.wrap ((Go.bits .and .u64 ((IntKind.u64.wrap ((Go.bits .and .u64 (a0 / 2) 6148914691236517205) + (Go.bits .and .u64 a0 6148914691236517205))) / 4) 3689348814741910323) + (Go.bits .and .u64 (IntKind.u64.wrap ((Go.bits .and .u64 (a0 / 2) 6148914691236517205) + (Go.bits .and .u64 a0 6148914691236517205))) 3689348814741910323))))) 1085102592571150095) + ((Go.bits .and .u64 (IntKind.u64.wrap (((IntKind.u64.wrap ((Go.bits .and .u64 ((IntKind.u64.wrap ((Go.bits .and .u64 (a0 / 2) 6148914691236517205) + (Go.bits .and .u64 a0 6148914691236517205))) / 4) 3689348814741910323) + (Go.bits .and .u64 (IntKind.u64.wrap ((Go.bits .and .u64 (a0 / 2) 6148914691236517205) + (Go.bits .and .u64 a0 6148914691236517205))) 3689348814741910323))) / 16) + (IntKind.u64.wrap ((Go.bits .and .u64 ((IntKind.u64.wrap ((Go.bits .and .u64 (a0 / 2) 6148914691236517205) + (Go.bits .and .u64 a0 6148914691236517205))) / 4) 3689348814741910323) + (Go.bits .and .u64 (IntKind.u64.wrap ((Go.bits .and .u64 (a0 / 2) 6148914691236517205) + (Go.bits .and .u64 a0 6148914691236517205))) 3689348814741910323))))) 1085102592571150095) / 256))) / 65536))) + ((IntKind.u64.wrap ((IntKind.u64.wrap ((Go.bits .and .u64 (IntKind.u64.wrap (((IntKind.u64.wrap ((Go.bits .and .u64 ((IntKind.u64.wrap ((Go.bits .and .u64 (a0 / 2) 6148914691236517205) + (Go.bits .and .u64 a0 6148914691236517205))) / 4) 3689348814741910323) + (Go.bits .and .u64 (IntKind.u64.wrap ((Go.bits .and .u64 (a0 / 2) 6148914691236517205) + (Go.bits .and .u64 a0 6148914691236517205))) 3689348814741910323))) / 16) + (IntKind.u64.wrap ((Go.bits .and .u64 ((IntKind.u64.wrap ((Go.bits .and .u64 (a0 / 2) 6148914691236517205) + (Go.bits .and .u64 a0 6148914691236517205))) / 4) 3689348814741910323) + (Go.bits .and .u64 (IntKind.u64.wrap ((Go.bits .and .u64 (a0 / 2) 6148914691236517205) + (Go.bits .and .u64 a0 6148914691236517205))) 3689348814741910323))))) 1085102592571150095) + ((Go.bits .and .u64 (IntKind.u64.wrap (((IntKind.u64.wrap ((Go.bits .and .u64 ((IntKind.u64.wrap ((Go.bits .and .u64 (a0 / 2) 6148914691236517205) + (Go.bits .and .u64 a0 6148914691236517205))) / 4) 3689348814741910323) + (Go.bits .and .u64 (IntKind.u64.wrap ((Go.bits .and .u64 (a0 / 2) 6148914691236517205) + (Go.bits .and .u64 a0 6148914691236517205))) 3689348814741910323))) / 16) + (IntKind.u64.wrap ((Go.bits .and .u64 ((IntKind.u64.wrap ((Go.bits .and .u64 (a0 / 2) 6148914691236517205) + (Go.bits .and .u64 a0 6148914691236517205))) / 4) 3689348814741910323) + (Go.bits .and .u64 (IntKind.u64.wrap ((Go.bits .and .u64 (a0 / 2) 6148914691236517205) + (Go.bits .and .u64 a0 6148914691236517205))) 3689348814741910323))))) 1085102592571150095) / 256))) + ((IntKind.u64.wrap ((Go.bits .and .u64 (IntKind.u64.wrap (((IntKind.u64.wrap ((Go.bits .and .u64 ((IntKind.u64.wrap ((Go.bits .and .u64 (a0 / 2) 6148914691236517205) + (Go.bits .and .u64 a0 6148914691236517205))) / 4) 3689348814741910323) + (Go.bits .and .u64 (IntKind.u64.wrap ((Go.bits .and .u64 (a0 / 2) 6148914691236517205) + (Go.bits .and .u64 a0 6148914691236517205))) 3689348814741910323))) / 16) + (IntKind.u64.wrap ((Go.bits .and .u64 ((IntKind.u64.wrap ((Go.bits .and .u64 (a0 / 2) 6148914691236517205) + (Go.bits .and .u64 a0 6148914691236517205))) / 4) 3689348814741910323) + (Go.bits .and .u64 (IntKind.u64.wrap ((Go.bits .and .u64 (a0 / 2) 6148914691236517205) + (Go.bits .and .u64 a0 6148914691236517205))) 3689348814741910323))))) 1085102592571150095) + ((Go.bits .and .u64 (IntKind.u64.wrap (((IntKind.u64.wrap ((Go.bits .and .u64 ((IntKind.u64.wrap ((Go.bits .and .u64 (a0 / 2) 6148914691236517205) + (Go.bits .and .u64 a0 6148914691236517205))) / 4) 3689348814741910323) + (Go.bits .and .u64 (IntKind.u64.wrap ((Go.bits .and .u64 (a0 / 2) 6148914691236517205) + (Go.bits .and .u64 a0 6148914691236517205))) 3689348814741910323))) / 16) + (IntKind.u64.wrap ((Go.bits .and .u64 ((IntKind.u64.wrap ((Go.bits .and .u64 (a0 / 2) 6148914691236517205) + (Go.bits .and .u64 a0 6148914691236517205))) / 4) 3689348814741910323) + (Go.bits .and .u64 (IntKind.u64.wrap ((Go.bits .and .u64 (a0 / 2) 6148914691236517205) + (Go.bits .and .u64 a0 6148914691236517205))) 3689348814741910323))))) 1085102592571150095) / 256))) / 65536))) / 4294967296)))) 127)) = some r := h
 clear h
 obtain rfl := Option.some.inj H
 go_enter Tryd.func57, Tryd.ntmps57
 go_wp2
 go_ret
 exact ⟨by first | rfl | (simp; done) | (simp [*]; done), by repeat (first | exact Drawn0.refl _ | apply Drawn0.step)⟩

/-! ### bits_OnesCount: function 44 -/
def bits_OnesCount.f (a0 : Int) : Option (Int) := (bits_OnesCount64.f a0).bind fun t101 => (some t101)
set_option maxHeartbeats 8000000 in
set_option maxRecDepth 100000 in
theorem bits_OnesCount.calls (a0 : Int) (r : Int) (w : World) (h : bits_OnesCount.f a0 = some r) :
  Calls Tryd.prog 44 #[.int .u64 a0] w fun e w' => e = .returned (.int .i64 r) ∧ Drawn0 w w' := by
 have H : ((bits_OnesCount64.f a0).bind fun t101 => (some t101)) = some r := h
 clear h
 replace H := Option.bind_eq_some_iff.mp H
 obtain ⟨t101, A20, H⟩ := H
 replace H : (some t101) = some r := H
 have A2 := A0_.mk A20
 clear A20
 obtain rfl := Option.some.inj H
 go_enter Tryd.func44, Tryd.ntmps44
 go_wp2_with (first | ((with_reducible refine gC (f := 57) rfl ?_); refine gL (some 7) rfl rfl Tryd.func57 (by kernel_rfl) rfl #[.int .u64 a0] rfl (by (try simp only [List.map_toArray, List.map_cons, List.map_nil]); first | done | rfl | (simp only [List.length_drop, List.length_take]; rfl)) ?_; (with_reducible refine (bits_OnesCount64.calls a0 t101 _ A2.out).mono ?_); rintro e w' ⟨rfl, ⟨nd, rfl⟩⟩; refine ⟨_, rfl, ?_⟩))
 go_ret
 exact ⟨by first | rfl | (simp; done) | (simp [*]; done), by repeat (first | exact Drawn0.refl _ | apply Drawn0.step)⟩

end Go.Proofs.YtklakmooaffjpaaDoor.PNoz
end

section
-- Written by a program of this session for this seat. Not trusted: Lean checks it.
namespace Go.Proofs.YtklakmooaffjpaaDoor.PNoz
open Go.RowKit Go.Proofs.YtklakmooaffjpaaDoorW.PrintWords Go.Proofs.YtklakmooaffjpaaDoorW.PrintLast Go.Proofs.YtklakmooaffjpaaDoorW.PrintMore
attribute [local go_sem] max2_int min2_int max_two min_two max_three min_three max_four min_four   -- for this text's walks alone
set_option linter.unusedVariables false
set_option linter.unusedSimpArgs false
open Go.Proofs.YtklakmooaffjpaaDoor.HW

end Go.Proofs.YtklakmooaffjpaaDoor.PNoz
end

section
/-
  How many bits: math/bits.OnesCount of sixteen bits, reckoned for each.
-/
namespace Go.Proofs.YtklakmooaffjpaaDoor.NodO
open Go.RowKit Go.Proofs.YtklakmooaffjpaaDoor.PNoz Go.Proofs.YtklakmooaffjpaaDoorW.PrintWords
set_option linter.unusedVariables false
/-- The bits of a number, as many as k. -/
def pop : Nat → Nat → Nat
  | 0, _ => 0
  | k + 1, n => n % 2 + pop k (n / 2)
def A (m s n : Nat) : Nat := (n / s).land m + n.land m
def T (m s n : Nat) : Nat := (n / s + n).land m
def G (s n : Nat) : Nat := n + n / s
def oc (n : Nat) : Nat := G 4294967296 (G 65536 (G 256 (T 1085102592571150095 16 (A 3689348814741910323 4 (A 6148914691236517205 2 n))))) % 128
def test (n : Nat) : Bool := Nat.beq (oc n) (pop 16 n)
def chk : Nat → Nat → Bool
  | 0, s => test s
  | d + 1, s => chk d s && chk d (s + 2 ^ d)
theorem chk_all : ∀ (d s : Nat), chk d s = true → ∀ n, s ≤ n → n < s + 2 ^ d → test n = true
  | 0, s, h, n, h1, h2 => by
    have : n = s := by simp at h2; omega
    rw [this]; exact h
  | d + 1, s, h, n, h1, h2 => by
    simp only [chk, Bool.and_eq_true] at h
    have e : 2 ^ (d + 1) = 2 ^ d + 2 ^ d := by rw [Nat.pow_succ]; omega
    by_cases hl : n < s + 2 ^ d
    · exact chk_all d s h.1 n h1 hl
    · exact chk_all d (s + 2 ^ d) h.2 n (by omega) (by omega)
theorem all16 : chk 16 0 = true := by decide +kernel
theorem oc_pop (n : Nat) (h : n < 65536) : oc n = pop 16 n := Nat.eq_of_beq_eq_true (chk_all 16 0 all16 n (Nat.zero_le _) (by omega))
theorem and_u64 (a m : Nat) (ha : a < 18446744073709551616) (hm : m < 18446744073709551616) : Go.bits .and .u64 (a : Int) (m : Int) = ((a.land m : Nat) : Int) := by
  have h1 : Go.bits .and .u64 (a : Int) (m : Int) = IntKind.u64.wrap ((BitVec.ofNat 64 a &&& BitVec.ofNat 64 m : BitVec 64).toNat : Int) := by
    simp only [Go.bits, BitVec.ofInt_natCast]; rfl
  have hl : a &&& m ≤ m := Nat.and_le_right
  rw [h1, BitVec.toNat_and, BitVec.toNat_ofNat, BitVec.toNat_ofNat, Nat.mod_eq_of_lt ha, Nat.mod_eq_of_lt hm, IntKind.wrap_u64]
  show _ = ((a &&& m : Nat) : Int)
  omega
theorem land_le (a m : Nat) : a.land m ≤ m := Nat.and_le_right
def AI (m s x : Int) : Int := IntKind.u64.wrap (Go.bits .and .u64 (x / s) m + Go.bits .and .u64 x m)
def TI (m s x : Int) : Int := Go.bits .and .u64 (IntKind.u64.wrap (x / s + x)) m
def GI (s x : Int) : Int := IntKind.u64.wrap (x + x / s)
theorem AI_eq (m s n : Nat) (hn : n < 18446744073709551616) (hm : m < 9223372036854775808) : AI (m : Int) (s : Int) (n : Int) = ((A m s n : Nat) : Int) := by
  have h1 := land_le (n / s) m
  have h2 := land_le n m
  have h3 : n / s < 18446744073709551616 := Nat.lt_of_le_of_lt (Nat.div_le_self _ _) hn
  rw [AI, show ((n : Int) / (s : Int)) = ((n / s : Nat) : Int) from rfl, and_u64 _ _ h3 (by omega), and_u64 _ _ hn (by omega), IntKind.wrap_u64, A]
  omega
theorem TI_eq (m s n : Nat) (hn : n < 9223372036854775808) (hm : m < 9223372036854775808) : TI (m : Int) (s : Int) (n : Int) = ((T m s n : Nat) : Int) := by
  have h3 : n / s ≤ n := Nat.div_le_self _ _
  have e : IntKind.u64.wrap ((n : Int) / (s : Int) + (n : Int)) = ((n / s + n : Nat) : Int) := by
    rw [show ((n : Int) / (s : Int)) = ((n / s : Nat) : Int) from rfl, IntKind.wrap_u64]
    generalize n / s = q at *
    omega
  rw [TI, e, and_u64 _ _ (by omega) (by omega)]; rfl
theorem GI_eq (s n : Nat) (hn : n < 4611686018427387904) : GI (s : Int) (n : Int) = ((G s n : Nat) : Int) := by
  have h3 : n / s ≤ n := Nat.div_le_self _ _
  rw [GI, show ((n : Int) / (s : Int)) = ((n / s : Nat) : Int) from rfl, IntKind.wrap_u64, G]
  generalize n / s = q at *
  omega
theorem G_le (s n : Nat) (hs : 2 ≤ s) : G s n ≤ n + n / 2 := by
  have : n / s ≤ n / 2 := Nat.div_le_div_left hs (by decide)
  unfold G; omega
theorem count64 (n : Nat) (h : n < 65536) : bits_OnesCount64.f (n : Int) = some ((pop 16 n : Nat) : Int) := by
  have e1 := AI_eq 6148914691236517205 2 n (by omega) (by decide)
  have b1 : A 6148914691236517205 2 n ≤ 131072 := by
    have h1 : (n / 2).land 6148914691236517205 ≤ n / 2 := Nat.and_le_left
    have h2 : n.land 6148914691236517205 ≤ n := Nat.and_le_left
    unfold A; omega
  obtain ⟨n1, hn1⟩ : ∃ x, x = A 6148914691236517205 2 n := ⟨_, rfl⟩
  rw [← hn1] at e1 b1
  have e2 := AI_eq 3689348814741910323 4 n1 (by omega) (by decide)
  have b2 : A 3689348814741910323 4 n1 ≤ 262144 := by
    have h1 : (n1 / 4).land 3689348814741910323 ≤ n1 / 4 := Nat.and_le_left
    have h2 : n1.land 3689348814741910323 ≤ n1 := Nat.and_le_left
    unfold A; omega
  obtain ⟨n2, hn2⟩ : ∃ x, x = A 3689348814741910323 4 n1 := ⟨_, rfl⟩
  rw [← hn2] at e2 b2
  have e3 := TI_eq 1085102592571150095 16 n2 (by omega) (by decide)
  have b3 : T 1085102592571150095 16 n2 ≤ 524288 := by
    have h1 : (n2 / 16 + n2).land 1085102592571150095 ≤ n2 / 16 + n2 := Nat.and_le_left
    unfold T; omega
  obtain ⟨n3, hn3⟩ : ∃ x, x = T 1085102592571150095 16 n2 := ⟨_, rfl⟩
  rw [← hn3] at e3 b3
  have e4 := GI_eq 256 n3 (by omega)
  have b4 := G_le 256 n3 (by decide)
  obtain ⟨n4, hn4⟩ : ∃ x, x = G 256 n3 := ⟨_, rfl⟩
  rw [← hn4] at e4 b4
  have e5 := GI_eq 65536 n4 (by omega)
  have b5 := G_le 65536 n4 (by decide)
  obtain ⟨n5, hn5⟩ : ∃ x, x = G 65536 n4 := ⟨_, rfl⟩
  rw [← hn5] at e5 b5
  have e6 := GI_eq 4294967296 n5 (by omega)
  have b6 := G_le 4294967296 n5 (by decide)
  obtain ⟨n6, hn6⟩ : ∃ x, x = G 4294967296 n5 := ⟨_, rfl⟩
  rw [← hn6] at e6 b6
  have hoc : oc n = n6 % 128 := by rw [oc, hn6, hn5, hn4, hn3, hn2, hn1]
  have hm := bits_mask .i64 62 (by decide) (fun n h0 h1 => by rw [IntKind.wrap_i64]; omega) 7 (by decide) (n6 : Int) (by omega) (by omega)
  show some (Go.bits .and .i64 (wrap64 (GI ((4294967296 : Nat) : Int) (GI ((65536 : Nat) : Int) (GI ((256 : Nat) : Int) (TI ((1085102592571150095 : Nat) : Int) ((16 : Nat) : Int) (AI ((3689348814741910323 : Nat) : Int) ((4 : Nat) : Int) (AI ((6148914691236517205 : Nat) : Int) ((2 : Nat) : Int) (n : Int)))))))) 127) = _
  rw [e1, e2, e3, e4, e5, e6, ← oc_pop n h, hoc]
  have w : wrap64 (n6 : Int) = (n6 : Int) := by unfold wrap64; omega
  rw [w]
  have e2 : ((2 : Int) ^ 7 - 1) = 127 := rfl
  rw [e2] at hm
  rw [hm]
  congr 1
theorem count (n : Nat) (h : n < 65536) : bits_OnesCount.f (n : Int) = some ((pop 16 n : Nat) : Int) := by
  unfold bits_OnesCount.f
  rw [count64 n h]; rfl
end Go.Proofs.YtklakmooaffjpaaDoor.NodO
end

section
/-
  Words of this session's own: worlds that have grown since a call began, and a region of open order whose operations leave the world alone and whose calls let it grow.
-/
namespace Go.Proofs.YtklakmooaffjpaaDoor.Cm
open Go.RowKit
set_option linter.unusedVariables false
/-- The world has grown since w0: what w0 had stands as it stood. -/
structure Calm (w0 w : World) : Prop where
  below : Below w0.heap.size w0 w
theorem Calm.refl (w : World) : Calm w w := ⟨Below.refl _ _⟩
theorem Calm.trans {a b c : World} (h : Calm a b) (k : Calm b c) : Calm a c := ⟨h.below.trans (k.below.mono h.below.size)⟩
theorem Calm.drew {a w : World} (h : Calm a w) : Calm a w.drew := ⟨h.below.drew⟩
theorem Calm.drewN {a w : World} (h : Calm a w) (n : Nat) : Calm a (w.drewN n) := by
  induction n with
  | zero => exact h
  | succ n ih => rw [← World.drew_drewN]; exact ih.drew
theorem Calm.alloc {a w : World} (h : Calm a w) (o : Obj) : Calm a (w.alloc o) := ⟨h.below.alloc h.below.size o⟩
theorem Calm.setCell {a w : World} (h : Calm a w) {p : Addr} (hp : a.heap.size ≤ p.block) (u : Value) : Calm a (w.setCell p u) := ⟨h.below.setCell hp u⟩
theorem Calm.call {P : Program} {f : FuncId} {args : Array Value} {w0 w : World} {v : Value} (hC : Calm w0 w)
    (h : Calls P f args w fun e w' => e = .returned v ∧ Below w.heap.size w w') : Calls P f args w fun e w' => e = .returned v ∧ Calm w0 w' :=
  h.mono fun _ _ ⟨he, hb⟩ => ⟨he, hC.trans ⟨hb⟩⟩
theorem wp_region_calm_lit {P : Program} {id : Nat} {Q : Exit → Act → World → Prop} {a : Act} {w : World} {l : List Oper} (w0 : World) (hm : P.follows .mixedOrders = true) (hB : Region.lexB .any l.toArray = true) (hC : Calm w0 w)
    (h : wpQuiet P l.toArray (Calm w0) (fun a' => ∀ w', Calm w0 w' → Q .normal a' w') l a) : (Code.region id l.toArray true).wp P Q a w :=
  wp_region_quiet (C := Calm w0) hm hB hC.drew (by simpa using h)
theorem val_int {k : IntKind} {a b : Int} (h : a = b) : Value.int k a = .int k b := by rw [h]
end Go.Proofs.YtklakmooaffjpaaDoor.Cm
end
