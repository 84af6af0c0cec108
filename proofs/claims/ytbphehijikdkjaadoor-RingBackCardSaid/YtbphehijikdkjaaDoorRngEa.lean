/-
  RingTells and RingBack in plain lists.
-/
import Derived.Test.YtbphehijikdkjaaDoorRngE
import Derived.Test.YtbphehijikdkjaaDoorPRngx10
namespace Go.Proofs.YtbphehijikdkjaaDoor.RngE
open Go.RowKit Go.Proofs.YtbphehijikdkjaaDoor.PRng Go.Proofs.YtbphehijikdkjaaDoorW.PrintWords Go.Proofs.YtbphehijikdkjaaDoorW.PrintLast Go.Proofs.YtbphehijikdkjaaDoorW.PrintMore Go.Proofs.YtbphehijikdkjaaDoor.Str Go.Proofs.YtbphehijikdkjaaDoor.DgsL Go.Proofs.YtbphehijikdkjaaDoor.DgsS Go.Proofs.YtbphehijikdkjaaDoor.DgsB Go.Proofs.YtbphehijikdkjaaDoor.DgsO Go.Proofs.YtbphehijikdkjaaDoor.DgsV Go.Proofs.YtbphehijikdkjaaDoor.RngH Go.Proofs.YtbphehijikdkjaaDoor.RngP Go.Proofs.YtbphehijikdkjaaDoor.RngQ Go.Proofs.YtbphehijikdkjaaDoor.RngS
set_option linter.unusedVariables false
theorem tells (l : List S49) (s : ByteArray) (hl : l.length < 4398046511104) : ∃ k, umbellaw21_RingTells.f k l s = some true := by
  refine Ev.rounds (g := fun k => umbellaw21_RingTells.f k l s) ?_
  unfold umbellaw21_RingTells.f
  have hj : Ev (fun k => umbellaw21_RingTells.j0 k l s true) true := Ev.step (fun k => by rw [umbellaw21_RingTells.j0, if_pos rfl]) wk
  obtain ⟨b, hb, hn⟩ := long_ev l hl
  refine Ev.bind hb ?_
  cases b with
  | true => exact Ev.congr (fun k => by rw [if_pos rfl]) hj
  | false =>
    have hn := hn rfl
    refine Ev.congr (f := fun k => umbellaw21_RingTells.j0 k l s (decide ((s.size : Int) > 1000))) (fun k => by rw [if_neg (by decide)]) ?_
    cases hd : decide ((s.size : Int) > 1000) with
    | true => exact hj
    | false =>
      refine Ev.step (f := _) (fun k => by rw [umbellaw21_RingTells.j0, if_neg (by decide), Option.bind_some, if_pos (by simp; omega), Option.bind_some, List.nil_append]) ?_
      refine Ev.bind (enc_ev l (by omega)) ?_
      refine Ev.bind (renc_ev l) ?_
      refine Ev.bind (dec_ev s) ?_
      refine Ev.bind (rdec_ev s) ?_
      refine Ev.congr (f := _) (fun k => by rw [if_pos rfl, if_pos (encR_ne l)]) ?_
      refine Ev.bind (same_ev _ (by have := dec_len s; omega)) ?_
      refine Ev.congr (f := _) (fun k => by rw [if_pos rfl, if_pos (by simp)]) ?_
      refine Ev.bind (same_ev l (by omega)) ?_
      exact Ev.congr (fun k => by rw [if_pos rfl]) wk
theorem back (l : List S49) (s : ByteArray) (hl : l.length < 4398046511104) : ∃ k, umbellaw21_RingBack.f k l s = some true := by
  refine Ev.rounds (g := fun k => umbellaw21_RingBack.f k l s) ?_
  unfold umbellaw21_RingBack.f
  have hj : Ev (fun k => umbellaw21_RingBack.j0 k l s true) true := Ev.step (fun k => by rw [umbellaw21_RingBack.j0, if_pos rfl]) wk
  have hj1 : Ev (fun k => umbellaw21_RingBack.j1 k s) true := by
    refine Ev.step (f := _) (fun k => by rw [umbellaw21_RingBack.j1]) ?_
    refine Ev.bind (dec_ev s) ?_
    cases hd : (decR s).2 with
    | true =>
      obtain ⟨ha, he⟩ := dec_true s hd
      have h6 := ha.2
      refine Ev.congr (f := _) (fun k => by rw [if_pos rfl]) ?_
      refine Ev.bind (enc_ev _ (by omega)) ?_
      rw [encR_pos ha]
      exact Ev.congr (fun k => by rw [if_pos rfl, if_pos (by rw [he]), if_pos (by omega)]) wk
    | false =>
      have he := dec_false s hd
      exact Ev.congr (fun k => by rw [if_neg (by decide), if_pos (by rw [he]; rfl)]) wk
  obtain ⟨b, hb, hn⟩ := long_ev l hl
  refine Ev.bind hb ?_
  cases b with
  | true => exact Ev.congr (fun k => by rw [if_pos rfl]) hj
  | false =>
    have hn := hn rfl
    refine Ev.congr (f := fun k => umbellaw21_RingBack.j0 k l s (decide ((s.size : Int) > 1000))) (fun k => by rw [if_neg (by decide)]) ?_
    cases hd : decide ((s.size : Int) > 1000) with
    | true => exact hj
    | false =>
      refine Ev.step (f := _) (fun k => by rw [umbellaw21_RingBack.j0, if_neg (by decide)]) ?_
      refine Ev.bind (enc_ev l (by omega)) ?_
      by_cases ha : allP l
      · obtain ⟨hf, hs, hdd⟩ := dec_enc l ha
        have h6 := ha.2
        rw [encR_pos ha]
        refine Ev.congr (f := _) (fun k => by rw [if_pos rfl]) ?_
        refine Ev.bind (dec_ev _) ?_
        rw [hdd]
        refine Ev.congr (f := _) (fun k => by rw [if_pos (by rw [hs]; omega)]) ?_
        refine Ev.bind (dec_ev _) ?_
        rw [not_fits l ha]
        refine Ev.congr (f := _) (fun k => by rw [if_pos rfl, if_neg (by decide)]) ?_
        refine Ev.bind (same_ev l (by omega)) ?_
        exact Ev.congr (fun k => by rw [if_pos rfl, if_pos (by rw [hs, wr (x := 38 * _) (by omega) (by omega), wr (by omega) (by omega)]; omega), if_neg (by rw [hs]; omega)]) hj1
      · rw [encR_neg ha]
        exact Ev.congr (fun k => by rw [if_neg (by decide)]) hj1
end Go.Proofs.YtbphehijikdkjaaDoor.RngE
