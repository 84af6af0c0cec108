import Derived.Test.YtklakmooaffjpaaDoorNodD
import Derived.Test.YtklakmooaffjpaaDoorPNodx14
import Derived.Test.YtklakmooaffjpaaDoorPNodx15
import Derived.Test.YtklakmooaffjpaaDoorProg
import Derived.Test.YtklakmooaffjpaaDoorSQ
import Derived.OpenShut
import Derived.ProofKit
import Derived.Deep.Strs
import Derived.Lib.SmallJoins
import Derived.ChangeOld
import Derived.SizedLaws
import Derived.Test.YtklakmooaffjpaaDoorRows
import Derived.Test.YtklakmooaffjpaaDoorPDgsx0
import Derived.LaidMore
import Derived.Lib.LaidTab
import Derived.Stop.Joined
import Derived.Stop.LaidErr
section
/-
  NodeTells' plain statement.
-/
namespace Go.Proofs.YtklakmooaffjpaaDoor.NodZT
open Go.RowKit Go.Proofs.YtklakmooaffjpaaDoorW.PrintWords Go.Proofs.YtklakmooaffjpaaDoorW.PrintLast Go.Proofs.YtklakmooaffjpaaDoorW.PrintMore Go.Proofs.YtklakmooaffjpaaDoor.PNor Go.Proofs.YtklakmooaffjpaaDoor.NibP Go.Proofs.YtklakmooaffjpaaDoor.NodO Go.Proofs.YtklakmooaffjpaaDoor.NodP Go.Proofs.YtklakmooaffjpaaDoor.NodE Go.Proofs.YtklakmooaffjpaaDoor.NodG Go.Proofs.YtklakmooaffjpaaDoor.NodI Go.Proofs.YtklakmooaffjpaaDoor.NodL
set_option linter.unusedVariables false
theorem j0_f (i : It) (s : ByteArray) (hp : i.p.size ≤ 1000) (hl : i.l.length ≤ 5000) (hs : s.size ≤ 2000) (k : Nat) (hk : 36000 < k) : PNod.u9NodeTells.j0 k s false i.k i.p i.h i.v i.m i.l = some true := by
  obtain ⟨k1, rfl⟩ : ∃ k1, k = k1 + 1 := ⟨k - 1, by omega⟩
  obtain ⟨j, b, hd, hr, hj⟩ : ∃ (j : It) (b : Bool), PNod.node_Decode.f k1 s = some (tup j b) ∧ PNod.r9Decode.f k1 s = some (tup j b) ∧ j.l.length ≤ 100 := by
    by_cases c : ∃ j, isItem s j
    · obtain ⟨j, h⟩ := c
      exact ⟨j, true, dec_pos h (by omega) k1 (by omega), NodD.rdec_pos h hs k1 (by omega), by have := good_len h.1; omega⟩
    · exact ⟨It.zero, false, dec_neg (fun j h => c ⟨j, h⟩) (by omega) k1 (by omega), NodD.rdec_neg (fun j h => c ⟨j, h⟩) hs k1 (by omega), by decide⟩
  have E := enc_f i (by omega) k1 (by omega)
  have H := NodN.hash_f i (by omega) k1 (by omega)
  have G := NodP.good_f i (by omega) k1 (by omega)
  have RG := NodQ.rgood_f i (by omega) (by omega) k1 (by omega)
  have RE := NodF.renc_f i (by omega) (by omega) k1 (by omega)
  have RH := NodN.rhash_f i (by omega) (by omega) k1 (by omega)
  have e2 : (encR i).2 = decide (goodP i) := by unfold encR; by_cases g : goodP i <;> simp [g]
  have h2 : (NodN.hashI i).2 = decide (goodP i) := by unfold NodN.hashI; by_cases g : goodP i <;> simp [g]
  have I1 := NodT.item_f j j (by omega) k1 (by omega)
  have I2 := NodT.item_f i i (by omega) k1 (by omega)
  have t1 : decide (j.k = j.k ∧ j.p = j.p ∧ j.h = j.h ∧ j.v = j.v ∧ j.m = j.m ∧ j.l = j.l) = true := by simp
  have t2 : decide (i.k = i.k ∧ i.p = i.p ∧ i.h = i.h ∧ i.v = i.v ∧ i.m = i.m ∧ i.l = i.l) = true := by simp
  rw [t1] at I1
  rw [t2] at I2
  rw [PNod.u9NodeTells.j0, if_neg (by decide), Option.bind_some, if_pos (by simp; omega), Option.bind_some, List.nil_append, E, Option.bind_some, H, Option.bind_some, hd, Option.bind_some, hr, Option.bind_some, G, Option.bind_some, RG, Option.bind_some]
  unfold tup
  dsimp only
  rw [if_pos (by simp), RE, Option.bind_some, if_pos rfl, Option.bind_some, e2, if_pos (by simp), RH, Option.bind_some, if_pos rfl, Option.bind_some, h2, if_pos (by simp), I1, Option.bind_some, if_pos rfl, if_pos (by simp), I2, Option.bind_some, if_pos rfl, NodW.wakes_f k1 (by omega)]; rfl
theorem pure (i : It) (s : ByteArray) (k : Nat) (hk : 40000 < k) : PNod.u9NodeTells.f k i.k i.p i.h i.v i.m i.l s = some true := by
  obtain ⟨b, hb, hf⟩ := NodX.long_f i k (by omega)
  obtain ⟨k1, rfl⟩ : ∃ k1, k = k1 + 1 := ⟨k - 1, by omega⟩
  have J0 : PNod.u9NodeTells.j0 (k1 + 1) s true i.k i.p i.h i.v i.m i.l = some true := by
    rw [PNod.u9NodeTells.j0, if_pos rfl, NodW.wakes_f k1 (by omega)]; rfl
  unfold PNod.u9NodeTells.f
  rw [hb, Option.bind_some]
  cases b with
  | true => rw [if_pos rfl, J0]
  | false =>
    obtain ⟨h1, h2, h3⟩ := hf rfl
    rw [if_neg (by decide)]
    by_cases hs : decide ((s.size : Int) > 2000) = true
    · rw [hs, J0]
    · have hs1 : s.size ≤ 2000 := by simp at hs; omega
      rw [Bool.eq_false_iff.2 hs]
      exact j0_f i s (by omega) (by omega) hs1 (k1 + 1) (by omega)
end Go.Proofs.YtklakmooaffjpaaDoor.NodZT
end

section
/-
  An Item as a row hands it: opened.
-/
namespace Go.Proofs.YtklakmooaffjpaaDoor.NodOp
open Go.ChangeShapes Go.WideShapes Go.ChangeAt Go.RowKit Go.Proofs.YtklakmooaffjpaaDoorW.PrintWords Go.Proofs.YtklakmooaffjpaaDoorW.PrintMore
set_option linter.unusedVariables false
theorem open_item {H : Type} {enc : TypeId × Value → H} {W : World} {base b0 : Nat} {sp : Nat → Bool} {held : Bool} {r : Reach} {v : Value} {d : DataW H} {p : List MemPlace}
    (hv : Value.okWide Tryd.prog W r b0 24 v) (h : DataW.Trod enc Tryd.prog W base sp held 24 v d p) :
    ∃ (a : Int) (b : ByteArray) (c : Bool) (e : ByteArray) (f : Int) (A : Option Addr) (m : Nat) (l : List ByteArray), v = .agg #[.int .i64 a, .string b, .bool c, .string e, .int .i64 f, .slice A l.length m] ∧
      l.length ≤ m ∧ Kd.C Kd.string W A l.length l ∧ (Lit.int .i64 a).wf = true ∧ (Lit.int .i64 f).wf = true := by
  obtain ⟨cs, rfl, hsz⟩ := okWide_struct Tryd.underlying24 hv
  obtain ⟨fuel, hf⟩ := h
  obtain ⟨xs, n, _, _, hl, hlen, hfs⟩ := DataW.trod_struct Tryd.underlying24 hf
  simp only [Value.cells] at hl hfs
  have c1 : Tryd.prog.cellsOf 3 = 1 := by kernel_rfl
  have c2 : Tryd.prog.cellsOf 9 = 1 := by kernel_rfl
  have c3 : Tryd.prog.cellsOf 4 = 1 := by kernel_rfl
  have c4 : Tryd.prog.cellsOf 22 = 1 := by kernel_rfl
  have c6 : Tryd.prog.cellsOf 24 = 6 := by kernel_rfl
  rw [c6] at hl
  match hcs : cs.toList, hl, xs, hlen with
  | [v0, v1, v2, v3, v4, v5], _, [y0, y1, y2, y3, y4, y5], _ =>
    rw [hcs] at hfs
    obtain ⟨x0, q0, _, w0⟩ := DataW.trod_int Tryd.underlying3 (hfs 0 _ rfl)
    obtain ⟨x1, q1, _, _⟩ := DataW.trod_string Tryd.underlying9 (hfs 1 _ rfl)
    obtain ⟨x2, q2, _⟩ := DataW.trod_bool Tryd.underlying4 (hfs 2 _ rfl)
    obtain ⟨x3, q3, _, _⟩ := DataW.trod_string Tryd.underlying9 (hfs 3 _ rfl)
    obtain ⟨x4, q4, _, w4⟩ := DataW.trod_int Tryd.underlying3 (hfs 4 _ rfl)
    have p0 : [v0] = [Value.int .i64 x0] := by have h := q0; change ([v0, v1, v2, v3, v4, v5].drop 0).take (Tryd.prog.cellsOf 3) = _ at h; rw [c1] at h; exact h
    have p1 : [v1] = [Value.string x1] := by have h := q1; change ([v0, v1, v2, v3, v4, v5].drop 1).take (Tryd.prog.cellsOf 9) = _ at h; rw [c2] at h; exact h
    have p2 : [v2] = [Value.bool x2] := by have h := q2; change ([v0, v1, v2, v3, v4, v5].drop 2).take (Tryd.prog.cellsOf 4) = _ at h; rw [c3] at h; exact h
    have p3 : [v3] = [Value.string x3] := by have h := q3; change ([v0, v1, v2, v3, v4, v5].drop 3).take (Tryd.prog.cellsOf 9) = _ at h; rw [c2] at h; exact h
    have p4 : [v4] = [Value.int .i64 x4] := by have h := q4; change ([v0, v1, v2, v3, v4, v5].drop 4).take (Tryd.prog.cellsOf 3) = _ at h; rw [c1] at h; exact h
    have q5 := hfs 5 _ rfl
    change DataW.trod enc Tryd.prog W base sp held n 22 (([v0, v1, v2, v3, v4, v5].drop 5).take (Tryd.prog.cellsOf 22)) = some y5 at q5
    rw [c4] at q5
    change DataW.trod enc Tryd.prog W base sp held n 22 [v5] = some y5 at q5
    simp only [List.cons.injEq, and_true] at p0 p1 p2 p3 p4
    subst p0 p1 p2 p3 p4
    have ha : cs = #[.int .i64 x0, .string x1, .bool x2, .string x3, .int .i64 x4, v5] := Array.toList_inj.1 hcs
    subst ha
    rcases Go.Deep.open_slice1 Tryd.underlying22 c2 q5 with ⟨h5, _⟩ | ⟨x, len, cap, m, n', V, D, Pl, h5, hb, hle, hm, hmm, hx, hread⟩
    · simp only [List.cons.injEq, and_true] at h5
      subst h5
      exact ⟨x0, x1, x2, x3, x4, none, 0, [], rfl, Nat.le_refl _, ⟨rfl, by decide, fun h => absurd h (by decide)⟩, w0, w4⟩
    · simp only [List.cons.injEq, and_true] at h5
      subst h5
      have hlm : len ≤ m := by rw [hmm]; split <;> omega
      have each : ∀ i, i < len → ∃ r : ByteArray, W.cell? (x.add i) = some (.string r) := by
        intro i hi
        obtain ⟨h1, h2⟩ := hread i (by omega)
        obtain ⟨s, q, _, _⟩ := DataW.trod_string Tryd.underlying9 h2
        simp only [List.cons.injEq, and_true] at q
        rw [q] at h1
        exact ⟨s, h1⟩
      have : Inhabited ByteArray := ⟨ByteArray.empty⟩
      obtain ⟨f, hf'⟩ := Go.Deep.choose_lt each
      have hmax : maxLen ≤ 9223372036854775807 := by decide
      refine ⟨x0, x1, x2, x3, x4, some x, cap, (List.range len).map f, ?_, ?_, ⟨?_, ?_, fun _ => ⟨x, rfl, fun i r hr => ?_⟩⟩, w0, w4⟩
      · simp
      · simpa using hle
      · simp
      · simp; omega
      have hi : i < len := by
        rcases Nat.lt_or_ge i len with h | h
        · exact h
        · rw [List.getElem?_eq_none (by simpa using h)] at hr; cases hr
      simp [hi] at hr
      subst hr
      refine ⟨[.string (f i)], rfl, rfl, fun q u hq => ?_⟩
      have hq0 : q = 0 := by
        rcases Nat.lt_or_ge q 1 with h | h
        · omega
        · rw [List.getElem?_eq_none (by simpa using h)] at hq; cases hq
      subst hq0
      simp at hq
      subst hq
      show W.cell? (x.add (i * 1 + 0)) = _
      rw [Nat.mul_one, Nat.add_zero]
      exact hf' i hi
end Go.Proofs.YtklakmooaffjpaaDoor.NodOp
end

section
/-
  NodeTells: the walk, for the row.
-/
namespace Go.Proofs.YtklakmooaffjpaaDoor.NodUT
open Go.RowKit Go.Proofs.YtklakmooaffjpaaDoorW.PrintWords Go.Proofs.YtklakmooaffjpaaDoorW.PrintMore Go.Proofs.YtklakmooaffjpaaDoor.NodP Go.Proofs.YtklakmooaffjpaaDoor.DgsB
set_option linter.unusedVariables false
theorem walk (a0 : Int) (b0 : ByteArray) (c0 : Bool) (e0 : ByteArray) (f0 : Int) (g0 : Option Addr) (m0 : Nat) (l0 : List ByteArray) (a1 : ByteArray) (W : World) (hG : Glob W) (h0 : l0.length ≤ m0) (k0 : Kd.C Kd.string W g0 l0.length l0) (x0 : (Lit.int .i64 a0).wf = true) (y0 : (Lit.int .i64 f0).wf = true) (w1 : a1.size ≤ 140737488351232) :
    Calls Tryd.prog 3 #[.agg #[.int .i64 a0, .string b0, .bool c0, .string e0, .int .i64 f0, .slice g0 l0.length m0], .string a1] W fun e w' => e = .returned (.bool true) ∧ Below W.heap.size W w' :=
  PNod.u9NodeTells.calls 40001 a0 b0 c0 e0 f0 g0 m0 l0 a1 true W k0 h0 hG (NodZT.pure ⟨a0, b0, c0, e0, f0, l0⟩ a1 40001 (by decide))
end Go.Proofs.YtklakmooaffjpaaDoor.NodUT
end

section
/-
  The tables umbel/digest.begin and umbel/digest.rounds as a row lays them: the walks' fact, and the witness.
-/
namespace Go.Proofs.YtklakmooaffjpaaDoor.Laid
open Go.RowKit Go.Proofs.YtklakmooaffjpaaDoor.DgsB
def L : List (String × DataW Unit) := [("umbel/digest.begin", Rows.laid_umbel_digest_begin), ("umbel/digest.rounds", Rows.laid_umbel_digest_rounds)]
theorem g0 : Tryd.prog.globalNamed "umbel/digest.begin" = some 0 := by kernel_rfl
theorem t0 : (Tryd.prog.globals[0]?).map (·.type) = some 60 := by kernel_rfl
theorem u0 : Tryd.prog.underlying 60 = some (.array 8 59) := by kernel_rfl
theorem g1 : Tryd.prog.globalNamed "umbel/digest.rounds" = some 1 := by kernel_rfl
theorem t1 : (Tryd.prog.globals[1]?).map (·.type) = some 81 := by kernel_rfl
theorem u1 : Tryd.prog.underlying 81 = some (.array 64 59) := by kernel_rfl
theorem uU32 : Tryd.prog.underlying 59 = some (.int .u32) := by kernel_rfl
theorem cU32 : Tryd.prog.cellsOf 59 = 1 := by kernel_rfl
theorem c0 : Tryd.prog.cellsOf 60 = 8 := by kernel_rfl
theorem c1 : Tryd.prog.cellsOf 81 = 64 := by kernel_rfl
/-- The door's own heap meets the condition. -/
theorem door_met (os : Os) (args : Array Value) : laidMetH Tryd.prog L ((World.doorLaid Tryd.prog 400 os).forCall (fun _ _ => 0) ⟨#[], args, []⟩).memory :=
  laidMetH_of_parts3 (fuel := 8) (laidMet_of_run' 8 (by kernel_rfl) (by kernel_rfl)) (by kernel_rfl) (by kernel_rfl)
/-- What the condition gives the walks. -/
theorem of_laid {W : World} (h : laidMetH Tryd.prog L W) : DgsB.Glob W := by
  rw [MakeChecks.laidMetH_plain _ _ _ (by kernel_rfl)] at h
  have ht0 : Lib.TabIs Tryd.prog W "umbel/digest.begin" .u32 (beg.map fun (n : Nat) => (n : Int)) := Lib.tabIs_of_head g0 t0 u0 uU32 cU32 c0 (rest := [("umbel/digest.rounds", Rows.laid_umbel_digest_rounds)]) h
  have ht1 : Lib.TabIs Tryd.prog W "umbel/digest.rounds" .u32 (kt.map fun (n : Nat) => (n : Int)) := Lib.tabIs_of_head g1 t1 u1 uU32 cU32 c1 (rest := []) h.tail
  refine ⟨fun i hi => ?_, fun i hi => ?_⟩
  · have := ht0.cell g0 i (by simpa [beg] using hi)
    rw [this]
    congr 2
    have hall : ∀ i, i < 8 → (beg.map fun (n : Nat) => (n : Int)).getD i 0 = ((beg.getD i 0 : Nat) : Int) := by decide
    exact hall i hi
  · have := ht1.cell g1 i (by simpa [kt] using hi)
    rw [this]
    congr 2
    have hall : ∀ i : Fin 64, (kt.map fun (n : Nat) => (n : Int)).getD i.val 0 = ((kt.getD i.val 0 : Nat) : Int) := by decide +kernel
    exact hall ⟨i, hi⟩
end Go.Proofs.YtklakmooaffjpaaDoor.Laid
end
