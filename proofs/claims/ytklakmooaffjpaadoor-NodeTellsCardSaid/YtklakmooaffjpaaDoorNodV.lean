import Derived.Test.YtklakmooaffjpaaDoorNodI
import Derived.Test.YtklakmooaffjpaaDoorPNodx14
import Derived.Test.YtklakmooaffjpaaDoorPNodx10
section
/-
  Lists of texts alike, Items alike.
-/
namespace Go.Proofs.YtklakmooaffjpaaDoor.NodT
open Go.RowKit Go.Proofs.YtklakmooaffjpaaDoorW.PrintWords Go.Proofs.YtklakmooaffjpaaDoorW.PrintLast Go.Proofs.YtklakmooaffjpaaDoorW.PrintMore Go.Proofs.YtklakmooaffjpaaDoor.PNod Go.Proofs.YtklakmooaffjpaaDoor.NibP Go.Proofs.YtklakmooaffjpaaDoor.NodP
set_option linter.unusedVariables false
theorem rd_at (l : List ByteArray) (j : Nat) (hj : j < l.length) : rdOf ByteArray.empty l (j : Int) = l[j] := by
  unfold rdOf
  rw [Int.toNat_natCast, List.getD_eq_getElem?_getD, List.getElem?_eq_getElem hj]; rfl
theorem texts_loop (a b : List ByteArray) (h : a.length = b.length) (hl : a.length ≤ 100000) : ∀ (d j k : Nat), j + d = a.length → d < k → k9Texts.l0 k a b (j : Int) = some (decide (a.drop j = b.drop j))
  | 0, j, k, hj, hk => by
    obtain ⟨k1, rfl⟩ : ∃ k1, k = k1 + 1 := ⟨k - 1, by omega⟩
    rw [k9Texts.l0, if_neg (by omega), List.drop_eq_nil_of_le (by omega), List.drop_eq_nil_of_le (by omega), decide_eq_true rfl]
  | d + 1, j, k, hj, hk => by
    obtain ⟨k1, rfl⟩ : ∃ k1, k = k1 + 1 := ⟨k - 1, by omega⟩
    have ha : j < a.length := by omega
    have hb : j < b.length := by omega
    have w2 : wrap64 ((j : Int) + 1) = ((j + 1 : Nat) : Int) := by rw [NibP.wr (by omega) (by omega)]; omega
    rw [k9Texts.l0, if_pos (by omega), if_pos (by omega), if_pos (by omega), rd_at a j ha, rd_at b j hb, List.drop_eq_getElem_cons ha, List.drop_eq_getElem_cons hb]
    by_cases he : a[j].toList = b[j].toList
    · rw [if_pos he, w2, texts_loop a b h hl d (j + 1) k1 (by omega) (by omega)]
      congr 1
      rw [decide_eq_decide, (toList_inj _ _).1 he]
      exact ⟨fun e => by rw [e], fun e => (List.cons.inj e).2⟩
    · rw [if_neg he, decide_eq_false]
      intro e
      exact he (by rw [(List.cons.inj e).1])
theorem texts_f (a b : List ByteArray) (hl : a.length ≤ 100000) (k : Nat) (hk : a.length < k) : k9Texts.f k a b = some (decide (a = b)) := by
  unfold k9Texts.f
  by_cases h : (a.length : Int) = (b.length : Int)
  · rw [if_pos h]
    have := texts_loop a b (by omega) hl a.length 0 k (by omega) hk
    rw [show ((0 : Nat) : Int) = 0 from rfl, List.drop_zero, List.drop_zero] at this
    exact this
  · rw [if_neg h, decide_eq_false]
    intro e; exact h (by rw [e])
theorem item_f (i j : It) (hl : i.l.length ≤ 100000) (k : Nat) (hk : i.l.length < k) : k9Item.f k i.k i.p i.h i.v i.m i.l j.k j.p j.h j.v j.m j.l = some (decide (i.k = j.k ∧ i.p = j.p ∧ i.h = j.h ∧ i.v = j.v ∧ i.m = j.m ∧ i.l = j.l)) := by
  unfold k9Item.f
  rw [texts_f i.l j.l hl k hk, Option.bind_some]
  by_cases h1 : i.k = j.k
  · rw [if_pos h1]
    by_cases h2 : i.p.toList = j.p.toList
    · rw [if_pos h2]
      have e2 := (toList_inj _ _).1 h2
      by_cases h3 : (i.h == j.h) = true
      · rw [if_pos h3]
        have e3 := beq_iff_eq.1 h3
        by_cases h4 : i.v.toList = j.v.toList
        · rw [if_pos h4]
          have e4 := (toList_inj _ _).1 h4
          by_cases h5 : i.m = j.m
          · rw [if_pos h5]; congr 1; rw [decide_eq_decide]
            exact ⟨fun e => ⟨h1, e2, e3, e4, h5, e⟩, fun e => e.2.2.2.2.2⟩
          · rw [if_neg h5, decide_eq_false (fun e => h5 e.2.2.2.2.1)]
        · rw [if_neg h4, decide_eq_false (fun e => h4 (by rw [e.2.2.2.1]))]
      · rw [if_neg h3, decide_eq_false (fun e => h3 (by rw [e.2.2.1]; exact beq_self_eq_true _))]
    · rw [if_neg h2, decide_eq_false (fun e => h2 (by rw [e.2.1]))]
  · rw [if_neg h1, decide_eq_false (fun e => h1 e.1)]
end Go.Proofs.YtklakmooaffjpaaDoor.NodT
end

section
/-
  Small plain facts of an Item's text.
-/
namespace Go.Proofs.YtklakmooaffjpaaDoor.NodV
open Go.RowKit Go.Proofs.YtklakmooaffjpaaDoorW.PrintWords Go.Proofs.YtklakmooaffjpaaDoorW.PrintLast Go.Proofs.YtklakmooaffjpaaDoorW.PrintMore Go.Proofs.YtklakmooaffjpaaDoor.PNod Go.Proofs.YtklakmooaffjpaaDoor.NodP Go.Proofs.YtklakmooaffjpaaDoor.NodE Go.Proofs.YtklakmooaffjpaaDoor.NodL Go.Proofs.YtklakmooaffjpaaDoor.NodI Go.Proofs.YtklakmooaffjpaaDoor.NodW Go.Proofs.YtklakmooaffjpaaDoor.NibP
set_option linter.unusedVariables false
theorem bt_first (x : Int) (h0 : 0 ≤ x) (h1 : x < 256) (b : ByteArray) : bt (strOfNums [x] ++ b) 0 = x := by
  have hR : R [x] := fun y hy => by rw [List.mem_singleton.1 hy]; exact ⟨h0, h1⟩
  rw [NibP.bt_rd, NibP.bytes_app, bytes_str _ hR]; rfl
end Go.Proofs.YtklakmooaffjpaaDoor.NodV
end
