import Derived.Test.YtklakmooaffjpaaDoorPNodx5
import Derived.Test.YtklakmooaffjpaaDoorPNodx6
import Derived.Test.YtklakmooaffjpaaDoorPNodx1
import Derived.Test.YtklakmooaffjpaaDoorPNodx8
import Derived.Test.YtklakmooaffjpaaDoorNibP
import Derived.Test.YtklakmooaffjpaaDoorNodI
section
/-
  node.Decode in plain words.
-/
namespace Go.Proofs.YtklakmooaffjpaaDoor.NodL
open Go.RowKit Go.Proofs.YtklakmooaffjpaaDoorW.PrintWords Go.Proofs.YtklakmooaffjpaaDoorW.PrintLast Go.Proofs.YtklakmooaffjpaaDoorW.PrintMore Go.Proofs.YtklakmooaffjpaaDoor.NibP Go.Proofs.YtklakmooaffjpaaDoor.NodO Go.Proofs.YtklakmooaffjpaaDoor.NodP Go.Proofs.YtklakmooaffjpaaDoor.NodE Go.Proofs.YtklakmooaffjpaaDoor.NodG Go.Proofs.YtklakmooaffjpaaDoor.NodI Go.Proofs.YtklakmooaffjpaaDoor.NodJ
set_option linter.unusedVariables false
/-- The text of an Item. -/
def isItem (s : ByteArray) (i : It) : Prop := goodP i ∧ encB i = s
def It.zero : It := ⟨0, ⟨#[]⟩, false, ⟨#[]⟩, 0, []⟩
def tup (i : It) (b : Bool) : Int × ByteArray × Bool × ByteArray × Int × List ByteArray × Bool := (i.k, i.p, i.h, i.v, i.m, i.l, b)
theorem dec_pos {s : ByteArray} {i : It} (h : isItem s i) (hs : s.size ≤ 10000) (k : Nat) (hk : 20000 < k) : PNod.node_Decode.f k s = some (tup i true) := by
  have hr := read_enc i h.1 k hk
  rw [h.2] at hr
  have hp : i.p.size ≤ 16 := by
    obtain ⟨j, hj, h1, _⟩ := read_tot s hs k hk
    rw [hr] at hj
    have e := congrArg (fun x => x.2.1) (Option.some.inj hj)
    simp only at e
    rw [e]; exact h1
  unfold PNod.node_Decode.f
  rw [show PNod.node_read.f k s = some (i.k, i.p, i.h, i.v, i.m, i.l) from hr, Option.bind_some]
  dsimp only
  rw [enc_f i (by omega) k (by omega), Option.bind_some]
  unfold NodE.encR
  rw [if_pos h.1]
  simp only [if_pos]
  rw [if_pos (by rw [h.2])]; rfl
theorem dec_neg {s : ByteArray} (h : ∀ i, ¬ isItem s i) (hs : s.size ≤ 10000) (k : Nat) (hk : 20000 < k) : PNod.node_Decode.f k s = some (tup It.zero false) := by
  obtain ⟨i, hr, hp, hl⟩ := read_tot s hs k hk
  unfold PNod.node_Decode.f
  rw [show PNod.node_read.f k s = some (i.k, i.p, i.h, i.v, i.m, i.l) from hr, Option.bind_some]
  dsimp only
  rw [enc_f i (by omega) k (by omega), Option.bind_some]
  unfold NodE.encR
  by_cases hg : goodP i
  · rw [if_pos hg]
    simp only [if_pos]
    rw [if_neg (fun e => h i ⟨hg, (toList_inj _ _).1 e⟩)]; rfl
  · rw [if_neg hg, if_neg (by decide)]; rfl
theorem item_inj {s : ByteArray} {i j : It} (hi : isItem s i) (hj : isItem s j) : i = j := by
  have h1 := read_enc i hi.1 20001 (by decide)
  have h2 := read_enc j hj.1 20001 (by decide)
  rw [hi.2] at h1
  rw [hj.2, h1] at h2
  obtain ⟨a, b, c, d, e, f⟩ := i
  obtain ⟨a', b', c', d', e', f'⟩ := j
  simp only [Option.some.injEq, Prod.mk.injEq] at h2
  obtain ⟨rfl, rfl, rfl, rfl, rfl, rfl⟩ := h2
  rfl
end Go.Proofs.YtklakmooaffjpaaDoor.NodL
end

section
-- Written by a program of this session for this seat. Not trusted: Lean checks it.
namespace Go.Proofs.YtklakmooaffjpaaDoor.PNod
open Go.RowKit Go.Proofs.YtklakmooaffjpaaDoorW.PrintWords Go.Proofs.YtklakmooaffjpaaDoorW.PrintLast Go.Proofs.YtklakmooaffjpaaDoorW.PrintMore
attribute [local go_sem] max2_int min2_int max_two min_two max_three min_three max_four min_four   -- for this text's walks alone
set_option linter.unusedVariables false
set_option linter.unusedSimpArgs false
open Go.Proofs.YtklakmooaffjpaaDoor.HW Go.Proofs.YtklakmooaffjpaaDoor.DgsB

/-! ### r9Encode: function 15 -/
end Go.Proofs.YtklakmooaffjpaaDoor.PNod
end

section
/-
  The reference's text of an Item: the same as the program's.
-/
namespace Go.Proofs.YtklakmooaffjpaaDoor.NodF
open Go.RowKit Go.Proofs.YtklakmooaffjpaaDoorW.PrintWords Go.Proofs.YtklakmooaffjpaaDoorW.PrintLast Go.Proofs.YtklakmooaffjpaaDoorW.PrintMore Go.Proofs.YtklakmooaffjpaaDoor.PNod Go.Proofs.YtklakmooaffjpaaDoor.NibP Go.Proofs.YtklakmooaffjpaaDoor.NodO Go.Proofs.YtklakmooaffjpaaDoor.NodH Go.Proofs.YtklakmooaffjpaaDoor.NodP Go.Proofs.YtklakmooaffjpaaDoor.NodQ Go.Proofs.YtklakmooaffjpaaDoor.NodE
set_option linter.unusedVariables false
theorem app_nil (s : ByteArray) : s ++ (⟨#[]⟩ : ByteArray) = s := by apply bytes_inj; simp [bytesOf]
end Go.Proofs.YtklakmooaffjpaaDoor.NodF
end

section
-- Written by a program of this session for this seat. Not trusted: Lean checks it.
namespace Go.Proofs.YtklakmooaffjpaaDoor.PNod
open Go.RowKit Go.Proofs.YtklakmooaffjpaaDoorW.PrintWords Go.Proofs.YtklakmooaffjpaaDoorW.PrintLast Go.Proofs.YtklakmooaffjpaaDoorW.PrintMore
attribute [local go_sem] max2_int min2_int max_two min_two max_three min_three max_four min_four   -- for this text's walks alone
set_option linter.unusedVariables false
set_option linter.unusedSimpArgs false
open Go.Proofs.YtklakmooaffjpaaDoor.HW Go.Proofs.YtklakmooaffjpaaDoor.DgsB

/-! ### r4Of: function 31 -/
/-! ### r9Hash: function 16 -/
end Go.Proofs.YtklakmooaffjpaaDoor.PNod
end

section
/-
  An Item's hash: the program's and the reference's.
-/
namespace Go.Proofs.YtklakmooaffjpaaDoor.NodN
open Go.RowKit Go.Proofs.YtklakmooaffjpaaDoorW.PrintWords Go.Proofs.YtklakmooaffjpaaDoorW.PrintLast Go.Proofs.YtklakmooaffjpaaDoorW.PrintMore Go.Proofs.YtklakmooaffjpaaDoor.NibP Go.Proofs.YtklakmooaffjpaaDoor.NodP Go.Proofs.YtklakmooaffjpaaDoor.NodE
set_option linter.unusedVariables false
def ofS (s : ByteArray) : ByteArray := strOfNums (DgsO.ofB (bytesOf s))
theorem enc_size {i : It} (h : goodP i) : 1 ≤ (encB i).size ∧ (encB i).size ≤ 1000 := by
  have hl := good_len h
  have hs := all_size i.l h.1
  have hv := h.2.1
  have hp := pack_size i.p
  have h1 : (strOfNums [i.k % 256]).size = 1 := by rw [NibP.str_size]; rfl
  have h2 : (strOfNums [i.m / 256 % 256, i.m % 256]).size = 2 := by rw [NibP.str_size]; rfl
  have h3 : (vB i.v).size = 1 + i.v.size := by rw [vB, ByteArray.size_append, NibP.str_size]; rfl
  have z0 : (⟨#[0]⟩ : ByteArray).size = 1 := rfl
  have z1 : (⟨#[1]⟩ : ByteArray).size = 1 := rfl
  unfold encB
  split
  · simp only [ByteArray.size_append]; omega
  · split
    · simp only [ByteArray.size_append]; omega
    · split <;> (simp only [ByteArray.size_append]; omega)
def hashI (i : It) : ByteArray × Bool := if goodP i then (ofS (encB i), true) else (⟨#[]⟩, false)
theorem hash_f (i : It) (hp : i.p.size ≤ 1000000) (k : Nat) (hk : i.p.size + 1 < k) : PNod.node_Hash.f k i.k i.p i.h i.v i.m i.l = some (hashI i) := by
  unfold PNod.node_Hash.f hashI
  rw [enc_f i hp k hk, Option.bind_some, NodE.encR]
  by_cases hg : goodP i
  · have hz := enc_size hg
    rw [if_pos hg, if_pos hg]
    simp only [if_pos]
    unfold PNod.digest_Of.f
    rw [if_pos (by omega)]; rfl
  · rw [if_neg hg, if_neg hg, if_neg (by decide)]
end Go.Proofs.YtklakmooaffjpaaDoor.NodN
end

section
/-
  The nodes' wakes in plain words.
-/
namespace Go.Proofs.YtklakmooaffjpaaDoor.NodW
open Go.RowKit Go.Proofs.YtklakmooaffjpaaDoorW.PrintWords Go.Proofs.YtklakmooaffjpaaDoorW.PrintLast Go.Proofs.YtklakmooaffjpaaDoorW.PrintMore Go.Proofs.YtklakmooaffjpaaDoor.PNod Go.Proofs.YtklakmooaffjpaaDoor.NodP Go.Proofs.YtklakmooaffjpaaDoor.NodE Go.Proofs.YtklakmooaffjpaaDoor.NodN Go.Proofs.YtklakmooaffjpaaDoor.NodL Go.Proofs.YtklakmooaffjpaaDoor.NodI
set_option linter.unusedVariables false
def H (v : Int) : ByteArray := strOfNums (List.replicate 32 v)
theorem h1_f : u9Hash.f 40 1 = some (H 1) := by decide +kernel
theorem h2_f : u9Hash.f 40 2 = some (H 2) := by decide +kernel
def i1 : It := ⟨1, ⟨#[1, 2, 3]⟩, true, ⟨#[118]⟩, 0, []⟩
def i2 : It := ⟨3, ⟨#[]⟩, false, ⟨#[]⟩, 32769, [H 1, H 2]⟩
def i3 : It := ⟨3, ⟨#[]⟩, false, ⟨#[]⟩, 1, [H 1]⟩
def i4 : It := ⟨1, ⟨#[]⟩, true, ⟨#[]⟩, 0, []⟩
theorem g1 : goodP i1 := by decide +kernel
theorem g2 : goodP i2 := by decide +kernel
theorem g3 : ¬ goodP i3 := by decide +kernel
theorem g4 : goodP i4 := by decide +kernel
theorem e1 : (encB i1).toList = ([1, 3, 18, 48, 1, 118] : List UInt8) := by decide +kernel
theorem e2 : (encB i2).size = 68 := by decide +kernel
theorem e2b : ((encB i2).extract 0 4).toList = ([3, 128, 1, 0] : List UInt8) := by decide +kernel
theorem e4 : encB i4 = (⟨#[1, 0, 0]⟩ : ByteArray) := by decide +kernel
def z : ByteArray := ⟨#[1, 0, 0, 122]⟩
theorem z_read : NodR.read_f 20001 z = some (1, ⟨#[]⟩, true, ⟨#[]⟩, 0, [⟨#[122]⟩]) := by kernel_rfl
theorem z_no (i : It) : ¬ isItem z i := by
  rintro ⟨hg, he⟩
  have h1 := read_enc i hg 20001 (by decide)
  rw [he, z_read] at h1
  have h2 := congrArg (fun x => x.2.2.2.2.2) (Option.some.inj h1)
  have h3 := hg.1 (⟨#[122]⟩ : ByteArray) (by simp only at h2; rw [← h2]; exact List.mem_cons_self)
  exact absurd h3 (by decide)
theorem leO {α : Type} {f : Nat → Option α} (hm : ∀ k, LeO (f k) (f (k + 1))) {k0 : Nat} {x : α} (h : f k0 = some x) : ∀ k, k0 ≤ k → f k = some x := by
  intro k hk
  induction k with
  | zero => obtain rfl : k0 = 0 := by omega
            exact h
  | succ k ih =>
    by_cases e : k0 = k + 1
    · rw [← e]; exact h
    · exact hm k x (ih (by omega))
theorem wakes_f (k : Nat) (hk : 20000 < k) : u9wakes.f k = some true := by
  have H1 := leO (f := fun k => u9Hash.f k 1) (fun k => u9Hash.mono 1 k) h1_f k (by omega)
  have H2 := leO (f := fun k => u9Hash.f k 2) (fun k => u9Hash.mono 2 k) h2_f k (by omega)
  have E1 := enc_f i1 (by decide) k (by have : i1.p.size = 3 := rfl; omega)
  have E2 := enc_f i2 (by decide) k (by have : i2.p.size = 0 := rfl; omega)
  have E3 := enc_f i3 (by decide) k (by have : i3.p.size = 0 := rfl; omega)
  have E4 := hash_f i4 (by decide) k (by have : i4.p.size = 0 := rfl; omega)
  have D2 := dec_pos (s := encB i2) ⟨g2, rfl⟩ (by rw [e2]; decide) k hk
  have DZ := dec_neg (s := z) z_no (by decide) k hk
  unfold NodE.encR at E1 E2 E3
  rw [if_pos g1] at E1
  rw [if_pos g2] at E2
  rw [if_neg g3] at E3
  unfold hashI at E4
  rw [if_pos g4, e4] at E4
  simp only [i1] at E1
  simp only [i2] at E2
  simp only [i3] at E3
  simp only [i4] at E4
  try dsimp only at H1 H2
  unfold u9wakes.f
  rw [E1, Option.bind_some, H1, Option.bind_some, H2, Option.bind_some, E2, Option.bind_some]
  dsimp only
  rw [show encB ⟨3, ⟨#[]⟩, false, ⟨#[]⟩, 32769, [H 1, H 2]⟩ = encB i2 from rfl, D2, Option.bind_some, Option.bind_some, E3, Option.bind_some, E4, Option.bind_some, show (⟨#[1, 0, 0, 122]⟩ : ByteArray) = z from rfl, DZ, Option.bind_some]
  have hof : digest_Of.f (⟨#[1, 0, 0]⟩ : ByteArray) = some (ofS ⟨#[1, 0, 0]⟩) := by unfold digest_Of.f; rw [if_pos (by decide)]; rfl
  have ee1 : (encB ⟨1, ⟨#[1, 2, 3]⟩, true, ⟨#[118]⟩, 0, []⟩).toList = ([1, 3, 18, 48, 1, 118] : List UInt8) := e1
  have ee2 : (encB ⟨3, ⟨#[]⟩, false, ⟨#[]⟩, 32769, [H 1, H 2]⟩).size = 68 := e2
  have ee2b : ((encB ⟨3, ⟨#[]⟩, false, ⟨#[]⟩, 32769, [H 1, H 2]⟩).extract 0 4).toList = ([3, 128, 1, 0] : List UInt8) := e2b
  simp only [tup, if_pos, ee1, ee2, ee2b, hof, Option.bind_some, It.zero, i2]
  rfl
end Go.Proofs.YtklakmooaffjpaaDoor.NodW
end

section
/-
  Is an Item too large? It always tells; where it is not, its parts are small.
-/
namespace Go.Proofs.YtklakmooaffjpaaDoor.NodX
open Go.RowKit Go.Proofs.YtklakmooaffjpaaDoorW.PrintWords Go.Proofs.YtklakmooaffjpaaDoorW.PrintLast Go.Proofs.YtklakmooaffjpaaDoorW.PrintMore Go.Proofs.YtklakmooaffjpaaDoor.PNod Go.Proofs.YtklakmooaffjpaaDoor.NibP Go.Proofs.YtklakmooaffjpaaDoor.NodP
set_option linter.unusedVariables false
theorem long_loop (l : List ByteArray) : ∀ (k acc i : Nat), i ≤ acc → acc ≤ 6001 → 3002 - acc < k → ∃ b, k9Long.l0 k l 3000 (acc : Int) (i : Int) = some b ∧ (b = false → l.length ≤ 3000)
  | 0, acc, i, h1, h2, h3 => by omega
  | k + 1, acc, i, h1, h2, h3 => by
    rw [k9Long.l0]
    by_cases ha : (i : Int) < (l.length : Int)
    · rw [if_pos ha]
      by_cases hb : (acc : Int) ≤ 3000
      · rw [if_pos hb, if_pos (by omega)]
        obtain ⟨q, hq, hq2⟩ : ∃ q : Nat, mn ((rdOf ByteArray.empty l (i : Int)).size : Int) 3000 = (q : Int) ∧ q ≤ 3000 := by
          unfold mn
          split
          · exact ⟨3000, rfl, by omega⟩
          · exact ⟨_, rfl, by omega⟩
        have w1 : wrap64 (1 + (q : Int)) = ((1 + q : Nat) : Int) := by rw [NibP.wr (by omega) (by omega)]; omega
        have w2 : wrap64 ((acc : Int) + ((1 + q : Nat) : Int)) = ((acc + (1 + q) : Nat) : Int) := by rw [NibP.wr (by omega) (by omega)]; omega
        have w3 : wrap64 ((i : Int) + 1) = ((i + 1 : Nat) : Int) := by rw [NibP.wr (by omega) (by omega)]; omega
        rw [hq, w1, w2, w3]
        exact long_loop l k (acc + (1 + q)) (i + 1) (by omega) (by omega) (by omega)
      · rw [if_neg hb]
        exact ⟨_, rfl, fun h => absurd h (by rw [decide_eq_true (by omega)]; decide)⟩
    · rw [if_neg ha]
      refine ⟨_, rfl, fun h => ?_⟩
      have := of_decide_eq_false h
      omega
theorem long_f (i : It) (k : Nat) (hk : 3002 < k) : ∃ b, u9Long.f k i.k i.p i.h i.v i.m i.l = some b ∧ (b = false → i.p.size ≤ 200 ∧ i.v.size ≤ 200 ∧ i.l.length ≤ 3000) := by
  unfold u9Long.f
  by_cases h1 : (i.p.size : Int) > 200
  · exact ⟨true, by rw [if_pos h1], fun h => by cases h⟩
  rw [if_neg h1]
  by_cases h2 : (i.v.size : Int) > 200
  · exact ⟨true, by rw [if_pos h2], fun h => by cases h⟩
  rw [if_neg h2]
  obtain ⟨b, hb, hf⟩ := long_loop i.l k 0 0 (Nat.le_refl _) (by omega) (by omega)
  refine ⟨b, ?_, fun h => ⟨by omega, by omega, hf h⟩⟩
  unfold k9Long.f
  rw [show ((0 : Nat) : Int) = 0 from rfl] at hb
  rw [hb]; rfl
end Go.Proofs.YtklakmooaffjpaaDoor.NodX
end
