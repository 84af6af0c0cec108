/-
  NodeUnlike's plain statement.
-/
import Derived.Test.YtklakmooaffjpaaDoorNodV
import Derived.Test.YtklakmooaffjpaaDoorPNodx18
namespace Go.Proofs.YtklakmooaffjpaaDoor.NodY
open Go.RowKit Go.Proofs.YtklakmooaffjpaaDoorW.PrintWords Go.Proofs.YtklakmooaffjpaaDoorW.PrintLast Go.Proofs.YtklakmooaffjpaaDoorW.PrintMore Go.Proofs.YtklakmooaffjpaaDoor.PNod Go.Proofs.YtklakmooaffjpaaDoor.NodP Go.Proofs.YtklakmooaffjpaaDoor.NodE Go.Proofs.YtklakmooaffjpaaDoor.NodL Go.Proofs.YtklakmooaffjpaaDoor.NodI Go.Proofs.YtklakmooaffjpaaDoor.NodW Go.Proofs.YtklakmooaffjpaaDoor.NodV Go.Proofs.YtklakmooaffjpaaDoor.NibP
set_option linter.unusedVariables false
theorem j1_f (i j : It) (hi : i.p.size ≤ 1000) (hj : j.p.size ≤ 1000) (li : i.l.length ≤ 5000) (lj : j.l.length ≤ 5000) (k : Nat) (hk : 30000 < k) : u9NodeUnlike.j1 k i.k i.p i.h i.v i.m i.l j.k j.p j.h j.v j.m j.l = some true := by
  obtain ⟨k1, rfl⟩ : ∃ k1, k = k1 + 1 := ⟨k - 1, by omega⟩
  rw [u9NodeUnlike.j1, enc_f i (by omega) k1 (by omega), Option.bind_some, enc_f j (by omega) k1 (by omega), Option.bind_some, NodT.item_f i j (by omega) k1 (by omega), NodQ.rgood_f i (by omega) (by omega) k1 (by omega), NodQ.rgood_f j (by omega) (by omega) k1 (by omega), wakes_f k1 (by omega)]
  unfold NodE.encR
  by_cases gi : goodP i
  · rw [if_pos gi, decide_eq_true gi]
    by_cases gj : goodP j
    · rw [if_pos gj, decide_eq_true gj]
      simp only [Option.bind_some, if_pos]
      rw [enc_iff gi gj, if_pos (beq_self_eq_true _)]
      simp
    · rw [if_neg gj, decide_eq_false gj]
      simp
  · rw [if_neg gi, decide_eq_false gi]
    by_cases gj : goodP j
    · rw [if_pos gj, decide_eq_true gj]
      simp
    · rw [if_neg gj, decide_eq_false gj]
      simp
theorem hash_ok (n : Int) (k : Nat) (hk : 40 < k) : ∃ t, u9Hash.f k n = some t := by
  unfold u9Hash.f
  rw [if_pos (by decide)]
  have loop : ∀ (d j k : Nat) (l : List Int), l.length = 32 → j + d = 32 → d < k → ∃ t, u9Hash.l0 k n l (j : Int) = some t := by
    intro d
    induction d with
    | zero =>
      intro j k l hl hj hk
      obtain ⟨k1, rfl⟩ : ∃ k1, k = k1 + 1 := ⟨k - 1, by omega⟩
      exact ⟨_, by rw [u9Hash.l0, if_neg (by omega)]⟩
    | succ d ih =>
      intro j k l hl hj hk
      obtain ⟨k1, rfl⟩ : ∃ k1, k = k1 + 1 := ⟨k - 1, by omega⟩
      have w2 : wrap64 ((j : Int) + 1) = ((j + 1 : Nat) : Int) := by rw [NibP.wr (by omega) (by omega)]; omega
      rw [u9Hash.l0, if_pos (by omega), if_pos (by omega), w2]
      exact ih (j + 1) k1 _ (by rw [List.length_set]; exact hl) (by omega) (by omega)
  exact loop 32 0 k _ (by simp) rfl (by omega)
theorem pure (i : It) (v : ByteArray) (n : Int) (k : Nat) (hk : 40000 < k) : u9NodeUnlike.f k i.k i.p i.h i.v i.m i.l v n = some true := by
  obtain ⟨b, hb, hf⟩ := NodX.long_f i k (by omega)
  unfold u9NodeUnlike.f
  rw [hb, Option.bind_some]
  obtain ⟨k1, rfl⟩ : ∃ k1, k = k1 + 1 := ⟨k - 1, by omega⟩
  have W := wakes_f k1 (by omega)
  cases b with
  | true => rw [if_pos rfl, u9NodeUnlike.j0, if_pos rfl, W]; rfl
  | false =>
    obtain ⟨h1, h2, h3⟩ := hf rfl
    rw [if_neg (by decide), u9NodeUnlike.j0]
    by_cases hv : decide ((v.size : Int) > 100) = true
    · rw [if_pos hv, W]; rfl
    rw [if_neg hv, Option.bind_some, if_pos (by simp; omega), Option.bind_some, List.nil_append]
    have J1 := j1_f i ⟨i.k, i.p, i.h, v, i.m, i.l⟩ (by omega) (by simp only; omega) (by omega) (by simp only; omega) k1 (by omega)
    have J3 := j1_f i ⟨i.k, i.p ++ (⟨#[1]⟩ : ByteArray), i.h, i.v, i.m, i.l⟩ (by omega) (by simp only [ByteArray.size_append]; have : (⟨#[1]⟩ : ByteArray).size = 1 := rfl; omega) (by omega) (by simp only; omega) k1 (by omega)
    by_cases n0 : Int.tmod n 3 = 0
    · rw [if_pos n0]; exact J1
    rw [if_neg n0]
    by_cases n1 : Int.tmod n 3 = 1
    · rw [if_pos n1]
      by_cases hl : (i.l.length : Int) > 0
      · obtain ⟨t, ht⟩ := hash_ok n k1 (by omega)
        rw [if_pos hl, ht, Option.bind_some, if_pos (by omega)]
        exact j1_f i ⟨i.k, i.p, i.h, i.v, i.m, i.l.set 0 t⟩ (by omega) (by simp only; omega) (by omega) (by simp only [List.length_set]; omega) k1 (by omega)
      · rw [if_neg hl, if_pos (by omega)]; exact J3
    · rw [if_neg n1, if_pos (by omega)]; exact J3
end Go.Proofs.YtklakmooaffjpaaDoor.NodY
