/-
  RingRefused in plain lists.
-/
import Derived.Test.YtbphehijikdkjaaDoorRngE
import Derived.Test.YtbphehijikdkjaaDoorPRngx11
namespace Go.Proofs.YtbphehijikdkjaaDoor.RngE
open Go.RowKit Go.Proofs.YtbphehijikdkjaaDoor.PRng Go.Proofs.YtbphehijikdkjaaDoorW.PrintWords Go.Proofs.YtbphehijikdkjaaDoorW.PrintLast Go.Proofs.YtbphehijikdkjaaDoorW.PrintMore Go.Proofs.YtbphehijikdkjaaDoor.Str Go.Proofs.YtbphehijikdkjaaDoor.DgsL Go.Proofs.YtbphehijikdkjaaDoor.DgsS Go.Proofs.YtbphehijikdkjaaDoor.DgsB Go.Proofs.YtbphehijikdkjaaDoor.DgsO Go.Proofs.YtbphehijikdkjaaDoor.DgsV Go.Proofs.YtbphehijikdkjaaDoor.RngH Go.Proofs.YtbphehijikdkjaaDoor.RngP Go.Proofs.YtbphehijikdkjaaDoor.RngQ Go.Proofs.YtbphehijikdkjaaDoor.RngS
set_option linter.unusedVariables false
/-- Each generation lies behind the last. -/
theorem allF_lt : ∀ (l : List S49) (last : Int), allF last l → ∀ i, (h : i + 1 < l.length) → l[i].f2 < l[i + 1].f2
  | [], _, _, i, h => by simp at h
  | [r], _, _, i, h => by simp at h
  | r :: q :: l, last, ha, 0, h => ha.2.2.2.1
  | r :: q :: l, last, ha, i + 1, h => allF_lt (q :: l) r.f2 ha.2.2 i (by simpa using h)
theorem refused_l0 (a b c d : List S49) (ha : ¬ allP a) (hb : ¬ allP b) (hc : ¬ allP c) (hd : ¬ allP d) (la : a.length ≤ 6) (lb : b.length ≤ 6) (lc : c.length ≤ 6) (ld : d.length ≤ 6) : ∀ m (e : List S49), e.length + m = 7 → 1 ≤ e.length → Ev (fun k => umbellaw21_RingRefused.l0 k a b c d e) true
  | 0, e, h, h1 => by
    have he : ¬ allP e := fun q => by have := q.2; omega
    refine Ev.step (f := _) (fun k => by rw [umbellaw21_RingRefused.l0, if_neg (by omega)]) ?_
    refine Ev.bind (enc_ev a (by omega)) ?_
    rw [encR_neg ha]
    refine Ev.bind (enc_ev b (by omega)) ?_
    rw [encR_neg hb]
    refine Ev.bind (enc_ev c (by omega)) ?_
    rw [encR_neg hc]
    refine Ev.bind (enc_ev d (by omega)) ?_
    rw [encR_neg hd]
    refine Ev.bind (enc_ev e (by omega)) ?_
    rw [encR_neg he]
    exact Ev.congr (fun k => by simp only [Bool.false_eq_true, if_false]) wk
  | m + 1, e, h, h1 => by
    have w1 : wrap64 ((e.length : Int) - 1) = ((e.length - 1 : Nat) : Int) := by rw [wr (by omega) (by omega)]; omega
    refine Ev.step (f := _) (fun k => by rw [umbellaw21_RingRefused.l0, if_pos (by omega), w1, if_pos (by omega), if_pos (by omega), if_pos (by omega)]) ?_
    exact refused_l0 a b c d ha hb hc hd la lb lc ld m _ (by simp; omega) (by simp)
theorem refused (l : List S49) (a1 : Int) (hl : l.length < 4398046511104) (h0 : 0 ≤ a1) (h1 : a1 < 4294967296) : ∃ k, umbellaw21_RingRefused.f k l a1 = some true := by
  refine Ev.rounds (g := fun k => umbellaw21_RingRefused.f k l a1) ?_
  unfold umbellaw21_RingRefused.f
  have hj : Ev (fun k => umbellaw21_RingRefused.j0 k l a1 true) true := Ev.step (fun k => by rw [umbellaw21_RingRefused.j0, if_pos rfl]) wk
  obtain ⟨b, hb, hn⟩ := long_ev l hl
  refine Ev.bind hb ?_
  cases b with
  | true => exact Ev.congr (fun k => by rw [if_pos rfl]) hj
  | false =>
    have hn := hn rfl
    refine Ev.congr (f := fun k => umbellaw21_RingRefused.j0 k l a1 (decide ((l.length : Int) < 2))) (fun k => by rw [if_neg (by decide)]) ?_
    cases hd : decide ((l.length : Int) < 2) with
    | true => exact hj
    | false =>
      rw [decide_eq_false_iff_not] at hd
      refine Ev.step (f := _) (fun k => by rw [umbellaw21_RingRefused.j0, if_neg (by decide)]) ?_
      refine Ev.bind (enc_ev l (by omega)) ?_
      by_cases ha : allP l
      · have h6 := ha.2
        have hm := allF_may l 0 ha.1
        have w0 : wrap64 a1 = a1 := wr (by omega) (by omega)
        have w1 : wrap64 ((l.length : Int) - 1) = ((l.length - 1 : Nat) : Int) := by rw [wr (by omega) (by omega)]; omega
        obtain ⟨i, hi⟩ : ∃ i : Nat, Int.tmod a1 ((l.length - 1 : Nat) : Int) = (i : Int) := ⟨(a1 % ((l.length - 1 : Nat) : Int)).toNat, by
          rw [Int.tmod_eq_emod_of_nonneg h0]
          have := Int.emod_nonneg a1 (b := ((l.length - 1 : Nat) : Int)) (by omega)
          omega⟩
        have hi1 : i + 1 < l.length := by
          have := Int.emod_lt_of_pos a1 (b := ((l.length - 1 : Nat) : Int)) (by omega)
          rw [Int.tmod_eq_emod_of_nonneg h0] at hi
          omega
        have w2 : wrap64 ((i : Int) + 1) = ((i + 1 : Nat) : Int) := wr (by omega) (by omega)
        rw [encR_pos ha]
        refine Ev.congr (f := _) (fun k => by
          rw [if_pos rfl, w0, w1, if_neg (by omega), hi, w2, Option.bind_some, if_pos (by simp; omega), Option.bind_some, List.nil_append, if_pos (by omega), if_pos (by omega), if_pos (by omega), if_pos (by omega), Option.bind_some, Option.bind_some, if_pos (by simp; omega), Option.bind_some, List.nil_append, if_pos (by omega), Option.bind_some, if_pos (by simp; omega), Option.bind_some, List.nil_append, show umbelref11_Empty.f = some eH from rfl, Option.bind_some, if_pos (by omega), Option.bind_some, Option.bind_some, if_pos (by simp; omega), Option.bind_some, List.nil_append]) ?_
        refine Ev.bind (hash_ev 5) ?_
        refine Ev.congr (f := _) (fun k => by
          rw [if_pos (by omega), Option.bind_some, Option.bind_some, if_pos (by simp; omega), List.nil_append]) ?_
        rw [Int.toNat_natCast, Int.toNat_natCast, rd_at l i (by omega), rd_at l (i + 1) hi1]
        have hl1 := allF_lt l 0 ha.1 i hi1
        have hm1 := hm l[i] (List.getElem_mem _)
        have bad : ∀ (v : List S49) (x : S49), i < v.length → ¬ mayP x → ¬ allP (v.set i x) := fun v x hv hx hq => hx (allF_may _ 0 hq.1 x (by rw [List.mem_iff_getElem]; exact ⟨i, by simpa using hv, by simp⟩))
        have rs : ∀ (v : List S49) (x : S49), i < v.length → rd_T49 (v.set i x) (i : Int) = x := fun v x hv => by rw [rd_at _ i (by simpa using hv)]; simp
        have rn : ∀ (x : S49), rd_T49 (l.set i x) ((i + 1 : Nat) : Int) = l[i + 1] := fun x => by rw [rd_at _ (i + 1) (by simpa using hi1)]; simp
        refine refused_l0 _ _ _ _ ?_ ?_ ?_ ?_ (by simp; omega) (by simp; omega) (by simp; omega) (by simp; omega) (7 - l.length) l (by omega) (by omega)
        · intro hq
          have := allF_lt _ 0 hq.1 i (by simpa using hi1)
          simp at this
          omega
        · refine bad _ _ (by omega) ?_
          rintro ⟨_, _, _, h | h⟩
          · exact absurd (show (1 : Int) = 0 from h.1) (by decide)
          · exact absurd (show (2 : Int) ≤ 1 from h.1) (by decide)
        · rw [rs _ _ (by omega)]
          refine bad _ _ (by simp; omega) ?_
          rintro ⟨_, _, _, h | h⟩
          · exact absurd (show (9 : Int) = 0 from h.1) (by decide)
          · exact h.2.2 rfl
        · rw [rs _ _ (by omega)]
          refine bad _ _ (by simp; omega) ?_
          rintro ⟨_, _, _, h | h⟩
          · exact eH_ne 5 (by decide) (by decide) h.2
          · exact absurd (show (2 : Int) ≤ 0 from h.1) (by decide)
      · rw [encR_neg ha]
        exact Ev.congr (fun k => by rw [if_neg (by decide)]) wk
end Go.Proofs.YtbphehijikdkjaaDoor.RngE
