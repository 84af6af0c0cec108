/-
  The reference's superblock in plain lists: it answers as the program's.
-/
import Derived.Test.YtiajgmocmnjijaaDoorPSupx9
import Derived.Test.YtiajgmocmnjijaaDoorSupP
namespace Go.Proofs.YtiajgmocmnjijaaDoor.SupR
open Go.RowKit Go.Proofs.YtiajgmocmnjijaaDoor.PSup Go.Proofs.YtiajgmocmnjijaaDoorW.PrintWords Go.Proofs.YtiajgmocmnjijaaDoorW.PrintLast Go.Proofs.YtiajgmocmnjijaaDoorW.PrintMore Go.Proofs.YtiajgmocmnjijaaDoor.Str Go.Proofs.YtiajgmocmnjijaaDoor.Dig Go.Proofs.YtiajgmocmnjijaaDoor.PagH Go.Proofs.YtiajgmocmnjijaaDoor.SupP
set_option linter.unusedVariables false
theorem g0 : 0 ≤ IntKind.u64.wrap (wrap64 (8 * 0)) := by decide +kernel
theorem g1 : 0 ≤ IntKind.u64.wrap (wrap64 (8 * 1)) := by decide +kernel
theorem g2 : 0 ≤ IntKind.u64.wrap (wrap64 (8 * 2)) := by decide +kernel
theorem n0 : wrap64 (1 - 1) = 0 := by decide +kernel
theorem n1 : wrap64 (2 - 1) = 1 := by decide +kernel
theorem rgood_eq (s : Sb) : umbelref23_Good.f s.q s.g s.l s.r s.t s.c = some (decide (goodP s)) := by
  show some (SupD.rg s.q s.g s.l s.r s.t s.c) = _
  congr 1
  unfold SupD.rg
  by_cases h : goodP s
  · obtain ⟨⟨q1, q2⟩, ⟨g1, g2⟩, ⟨l1, l2⟩, ⟨r1, r2⟩, ht, hn, c1, c2⟩ := id h
    rw [if_pos q1, if_pos q2, if_pos g1, if_pos g2, if_pos l1, if_pos l2, if_pos r1, if_pos (by omega), decide_eq_true h]
    by_cases h0 : s.t = 0
    · rw [if_pos h0, if_pos c1, decide_eq_true c2]
    · have h2 := ht.resolve_left h0
      rw [if_neg h0, if_pos h2.1, if_pos (by omega), if_neg hn, if_pos c1, decide_eq_true c2]
  · rw [decide_eq_false h]
    have k : ∀ {p : Prop} [Decidable p] {x : Bool}, (p → x = false) → (if p then x else false) = false := fun {p} _ {x} hx => by
      by_cases hp : p
      · rw [if_pos hp]; exact hx hp
      · rw [if_neg hp]
    refine k (fun q1 => k (fun q2 => k (fun g1 => k (fun g2 => k (fun l1 => k (fun l2 => k (fun r1 => k (fun r2 => ?_))))))))
    by_cases h0 : s.t = 0
    · rw [if_pos h0]
      refine k (fun c1 => ?_)
      rw [decide_eq_false_iff_not]
      exact fun c2 => h ⟨⟨q1, q2⟩, ⟨g1, g2⟩, ⟨l1, l2⟩, ⟨r1, by omega⟩, Or.inl h0, by omega, c1, c2⟩
    · rw [if_neg h0]
      refine k (fun t1 => k (fun t2 => ?_))
      by_cases hn : s.t = s.r
      · rw [if_pos hn]
      · rw [if_neg hn]
        refine k (fun c1 => ?_)
        rw [decide_eq_false_iff_not]
        exact fun c2 => h ⟨⟨q1, q2⟩, ⟨g1, g2⟩, ⟨l1, l2⟩, ⟨r1, by omega⟩, Or.inr ⟨t1, by omega⟩, hn, c1, c2⟩
end Go.Proofs.YtiajgmocmnjijaaDoor.SupR
