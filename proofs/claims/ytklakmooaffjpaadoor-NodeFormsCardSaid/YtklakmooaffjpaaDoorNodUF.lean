import Derived.Test.YtklakmooaffjpaaDoorNodV
import Derived.Test.YtklakmooaffjpaaDoorPNodx17
import Derived.Test.YtklakmooaffjpaaDoorNodOp
section
/-
  NodeForms' plain statement.
-/
namespace Go.Proofs.YtklakmooaffjpaaDoor.NodZF
open Go.RowKit Go.Proofs.YtklakmooaffjpaaDoorW.PrintWords Go.Proofs.YtklakmooaffjpaaDoorW.PrintLast Go.Proofs.YtklakmooaffjpaaDoorW.PrintMore Go.Proofs.YtklakmooaffjpaaDoor.PNor Go.Proofs.YtklakmooaffjpaaDoor.NibP Go.Proofs.YtklakmooaffjpaaDoor.NodO Go.Proofs.YtklakmooaffjpaaDoor.NodP Go.Proofs.YtklakmooaffjpaaDoor.NodE Go.Proofs.YtklakmooaffjpaaDoor.NodG Go.Proofs.YtklakmooaffjpaaDoor.NodI Go.Proofs.YtklakmooaffjpaaDoor.NodL Go.Proofs.YtklakmooaffjpaaDoor.NodV
set_option linter.unusedVariables false
theorem enc_first {i : It} (hg : goodP i) : bt (encB i) 0 = i.k := by
  have hk : i.k = 1 ∨ i.k = 2 ∨ i.k = 3 := by
    obtain ⟨_, _, _, h | h | h⟩ := hg
    · exact Or.inl h.1
    · exact Or.inr (Or.inl h.1)
    · exact Or.inr (Or.inr h.1)
  have e : i.k % 256 = i.k := Int.emod_eq_of_lt (by omega) (by omega)
  unfold encB
  rw [e]
  split
  · rw [app_assoc, bt_first _ (by omega) (by omega)]
  · split
    · rw [app_assoc, bt_first _ (by omega) (by omega)]
    · split
      · rw [app_assoc, app_assoc, app_assoc, bt_first _ (by omega) (by omega)]
      · rw [app_assoc, app_assoc, bt_first _ (by omega) (by omega)]
theorem half (n : Nat) (h : n ≤ 200) : (wrap64 (1 + (wrap64 (Int.tdiv (wrap64 ((n : Int) + 1)) 2)))) = 1 + (((n + 1) / 2 : Nat) : Int) := by
  rw [NibP.wr (x := (n : Int) + 1) (by omega) (by omega), show Int.tdiv ((n : Int) + 1) 2 = (((n + 1) / 2 : Nat) : Int) by rw [Int.tdiv_eq_ediv_of_nonneg (by omega)]; omega, NibP.wr (x := (((n + 1) / 2 : Nat) : Int)) (by omega) (by omega), NibP.wr (by omega) (by omega)]
theorem pure (i : It) (k : Nat) (hk : 40000 < k) : PNod.u9NodeForms.f k i.k i.p i.h i.v i.m i.l = some true := by
  obtain ⟨b, hb, hf⟩ := NodX.long_f i k (by omega)
  unfold PNod.u9NodeForms.f
  rw [hb, Option.bind_some, NodW.wakes_f k (by omega)]
  cases b with
  | true => rw [if_pos rfl]; rfl
  | false =>
    obtain ⟨h1, h2, h3⟩ := hf rfl
    rw [if_neg (by decide), enc_f i (by omega) k (by omega), Option.bind_some]
    unfold NodE.encR
    by_cases hg : goodP i
    · rw [if_pos hg]
      dsimp only
      rw [if_pos rfl, enc_first hg]
      have hl := good_len hg
      have hs := all_size i.l hg.1
      have hv := hg.2.1
      have z1 : ∀ x : Int, (strOfNums [x]).size = 1 := fun x => by rw [NibP.str_size]; rfl
      have z2 : ∀ x y : Int, (strOfNums [x, y]).size = 2 := fun x y => by rw [NibP.str_size]; rfl
      have z3 : (⟨#[0]⟩ : ByteArray).size = 1 := rfl
      have z4 : (⟨#[1]⟩ : ByteArray).size = 1 := rfl
      have q1 : (wrap64 (1 + (wrap64 (32 * (i.l.length : Int))))) = 1 + 32 * (i.l.length : Int) := by rw [NibP.wr (x := 32 * (i.l.length : Int)) (by omega) (by omega), NibP.wr (by omega) (by omega)]
      have q2 : (wrap64 (1 + (i.v.size : Int))) = 1 + (i.v.size : Int) := NibP.wr (by omega) (by omega)
      rw [q1, q2]
      rcases hg.2.2.2 with ⟨ka, p1, p2, p3, p4⟩ | ⟨ka, p1, p2, p3, p4, p5⟩ | ⟨ka, p1, p2, p3, p4, p5⟩
      · have gz := (good_size p1).1
        have q3 := half i.p.size h1
        have q4 : (wrap64 (1 + 32 * (i.l.length : Int) + (1 + (((i.p.size + 1) / 2 : Nat) : Int)))) = 1 + 32 * (i.l.length : Int) + (1 + (((i.p.size + 1) / 2 : Nat) : Int)) := NibP.wr (by clear q1 q2 q3; omega) (by clear q1 q2 q3; omega)
        have q5 : (wrap64 (1 + 32 * (i.l.length : Int) + (1 + (((i.p.size + 1) / 2 : Nat) : Int)) + (1 + (i.v.size : Int)))) = 1 + 32 * (i.l.length : Int) + (1 + (((i.p.size + 1) / 2 : Nat) : Int)) + (1 + (i.v.size : Int)) := NibP.wr (by clear q1 q2 q3 q4; omega) (by clear q1 q2 q3 q4; omega)
        have pz := pack_len i.p p1
        have e : (encB i).size = 1 + (1 + (i.p.size + 1) / 2) + (1 + i.v.size) := by
          unfold encB vB
          rw [if_pos ka, ByteArray.size_append, ByteArray.size_append, ByteArray.size_append, z1, z1, pz]
        rw [if_neg (by rw [ka]; decide), if_pos p2, q3, q4, q5, e]; clear q1 q2 q3 q4 q5 hs e pz; rw [if_pos (by omega), if_pos (by omega), if_pos (NibP.wr (by omega) (by omega)), if_pos (by omega)]; rfl
      · have gz := (good_size p1).1
        have q3 := half i.p.size h1
        have q4 : (wrap64 (1 + 32 * (i.l.length : Int) + (1 + (((i.p.size + 1) / 2 : Nat) : Int)))) = 1 + 32 * (i.l.length : Int) + (1 + (((i.p.size + 1) / 2 : Nat) : Int)) := NibP.wr (by clear q1 q2 q3; omega) (by clear q1 q2 q3; omega)
        have pz := pack_len i.p p1
        have e : (encB i).size = 1 + (1 + (i.p.size + 1) / 2) + 32 * i.l.length := by
          unfold encB
          rw [if_neg (by rw [ka]; decide), if_pos ka, ByteArray.size_append, ByteArray.size_append, z1, pz, hs]
        rw [if_neg (by rw [ka]; decide), if_neg (by rw [p3]; decide), q3, q4, e]; clear q1 q2 q3 q4 hs e pz; rw [if_pos (by omega), if_pos (by omega), if_pos (NibP.wr (by omega) (by omega)), if_pos (by omega)]; rfl
      · have q4 : (wrap64 (1 + 32 * (i.l.length : Int) + 3)) = 1 + 32 * (i.l.length : Int) + 3 := NibP.wr (by omega) (by omega)
        rw [if_pos ka]
        by_cases hh : i.h = true
        · have e : (encB i).size = 1 + 2 + 1 + (1 + i.v.size) + 32 * i.l.length := by
            unfold encB vB
            rw [if_neg (by rw [ka]; decide), if_neg (by rw [ka]; decide), if_pos hh, ByteArray.size_append, ByteArray.size_append, ByteArray.size_append, ByteArray.size_append, ByteArray.size_append, z1, z1, z2, z4, hs]
          have q5 : (wrap64 (1 + 32 * (i.l.length : Int) + 3 + (1 + (i.v.size : Int)))) = 1 + 32 * (i.l.length : Int) + 3 + (1 + (i.v.size : Int)) := NibP.wr (by omega) (by omega)
          rw [if_pos hh, q4, q5, e]; clear q1 q2 q4 q5 hs e; rw [if_pos (by omega), if_pos (by omega), if_pos (NibP.wr (by omega) (by omega)), if_pos (by omega)]; rfl
        · have e : (encB i).size = 1 + 2 + 1 + 32 * i.l.length := by
            unfold encB
            rw [if_neg (by rw [ka]; decide), if_neg (by rw [ka]; decide), if_neg hh, ByteArray.size_append, ByteArray.size_append, ByteArray.size_append, z1, z2, z3, hs]
          rw [if_neg hh, q4, e]; clear q1 q2 q4 hs e; rw [if_pos (by omega), if_pos (by omega), if_pos (NibP.wr (by omega) (by omega)), if_pos (by omega)]; rfl
    · rw [if_neg hg]
      dsimp only
      rw [if_neg (by decide), if_pos ((toList_nil _).2 rfl), NodP.good_f i (by omega) k (by omega), decide_eq_false hg, Option.bind_some, if_neg (by decide)]; rfl
end Go.Proofs.YtklakmooaffjpaaDoor.NodZF
end

section
/-
  NodeForms: the walk, for the row.
-/
namespace Go.Proofs.YtklakmooaffjpaaDoor.NodUF
open Go.RowKit Go.Proofs.YtklakmooaffjpaaDoorW.PrintWords Go.Proofs.YtklakmooaffjpaaDoorW.PrintMore Go.Proofs.YtklakmooaffjpaaDoor.NodP Go.Proofs.YtklakmooaffjpaaDoor.DgsB
set_option linter.unusedVariables false
theorem walk (a0 : Int) (b0 : ByteArray) (c0 : Bool) (e0 : ByteArray) (f0 : Int) (g0 : Option Addr) (m0 : Nat) (l0 : List ByteArray) (W : World) (hG : Glob W) (h0 : l0.length ≤ m0) (k0 : Kd.C Kd.string W g0 l0.length l0) (x0 : (Lit.int .i64 a0).wf = true) (y0 : (Lit.int .i64 f0).wf = true) :
    Calls Tryd.prog 5 #[.agg #[.int .i64 a0, .string b0, .bool c0, .string e0, .int .i64 f0, .slice g0 l0.length m0]] W fun e w' => e = .returned (.bool true) ∧ Below W.heap.size W w' :=
  PNod.u9NodeForms.calls 40001 a0 b0 c0 e0 f0 g0 m0 l0 true W k0 h0 hG (NodZF.pure ⟨a0, b0, c0, e0, f0, l0⟩ 40001 (by decide))
end Go.Proofs.YtklakmooaffjpaaDoor.NodUF
end
