/-
  What the ring's laws have in common, in plain lists.
-/
import Derived.Test.YtbphehijikdkjaaDoorRngS
namespace Go.Proofs.YtbphehijikdkjaaDoor.RngE
open Go.RowKit Go.Proofs.YtbphehijikdkjaaDoor.PRng Go.Proofs.YtbphehijikdkjaaDoorW.PrintWords Go.Proofs.YtbphehijikdkjaaDoorW.PrintLast Go.Proofs.YtbphehijikdkjaaDoorW.PrintMore Go.Proofs.YtbphehijikdkjaaDoor.Str Go.Proofs.YtbphehijikdkjaaDoor.DgsL Go.Proofs.YtbphehijikdkjaaDoor.DgsS Go.Proofs.YtbphehijikdkjaaDoor.DgsB Go.Proofs.YtbphehijikdkjaaDoor.DgsO Go.Proofs.YtbphehijikdkjaaDoor.DgsV Go.Proofs.YtbphehijikdkjaaDoor.RngH Go.Proofs.YtbphehijikdkjaaDoor.RngP Go.Proofs.YtbphehijikdkjaaDoor.RngQ Go.Proofs.YtbphehijikdkjaaDoor.RngS
set_option linter.unusedVariables false
set_option maxRecDepth 100000 in
theorem b_zero : blockL beg (nat (full [0])) = [0x6e340b9c, 0xffb37a98, 0x9ca544e6, 0xbb780a2c, 0x78901d3f, 0xb3373876, 0x8511a306, 0x17afa01d] := one_block _ _ (by decide +kernel)
theorem of_zero : ofB [0] = outB [0x6e340b9c, 0xffb37a98, 0x9ca544e6, 0xbb780a2c, 0x78901d3f, 0xb3373876, 0x8511a306, 0x17afa01d] := by
  rw [of_one _ (by decide +kernel), b_zero]
theorem eH_eq : eH = strOfNums (outB [0x6e340b9c, 0xffb37a98, 0x9ca544e6, 0xbb780a2c, 0x78901d3f, 0xb3373876, 0x8511a306, 0x17afa01d]) := by
  rw [← of_zero]; rfl
theorem eH_bt : bt eH 0 = 110 := by rw [eH_eq]; decide +kernel
theorem hB_bt (v : Int) (h : 0 ≤ v ∧ v < 256) : bt (hB v) 0 = v := by
  rw [hB, bt_str (fun x hx => by rw [(List.mem_replicate.1 hx).2]; exact h)]; rfl
theorem eH_ne (v : Int) (h : 0 ≤ v ∧ v < 256) (h1 : v ≠ 110) : hB v ≠ eH := fun q => by
  have := hB_bt v h
  rw [q, eH_bt] at this
  exact h1 this.symm
/-- What was encoded is decoded. -/
theorem dec_enc (l : List S49) (h : allP l) : fits (strOfNums (encL l)) ∧ (strOfNums (encL l)).size = 1 + 38 * l.length ∧ decR (strOfNums (encL l)) = (l, true) := by
  have hm := allF_may l 0 h.1
  have hl := h.2
  have hs : (strOfNums (encL l)).size = 1 + 38 * l.length := by
    rw [str_size, encL, List.length_cons, flat_len l (fun r hr => (hm r hr).1)]; omega
  have hb : bt (strOfNums (encL l)) 0 = (l.length : Int) := by
    rw [bt_str (R_encL l)]
    show (l.length : Int) % 256 = _
    omega
  have hf : fits (strOfNums (encL l)) := ⟨by omega, by rw [hb, hs]; omega⟩
  refine ⟨hf, hs, ?_⟩
  rw [decR, if_pos hf, hb, Int.toNat_natCast, bytes_str _ (R_encL l), encL, List.drop_one, List.tail_cons, dec_encL l hm, decF', if_pos h]
theorem not_fits (l : List S49) (h : allP l) : decR (strOfNums (encL l) ++ (⟨#[0]⟩ : ByteArray)) = ([], false) := by
  obtain ⟨hf, hs, _⟩ := dec_enc l h
  have hn : ¬ fits (strOfNums (encL l) ++ (⟨#[0]⟩ : ByteArray)) := by
    rintro ⟨_, h2⟩
    have hz : (strOfNums (encL l) ++ (⟨#[0]⟩ : ByteArray)).size = 1 + 38 * l.length + 1 := by rw [ByteArray.size_append, hs]; rfl
    rw [hz] at h2
    omega
  rw [decR, if_neg hn]
/-- What was decoded is what is encoded. -/
theorem dec_true (s : ByteArray) (h : (decR s).2 = true) : allP (decR s).1 ∧ strOfNums (encL (decR s).1) = s := by
  unfold decR at h ⊢
  by_cases hf : fits s
  · rw [if_pos hf] at h ⊢
    unfold decF' at h ⊢
    by_cases ha : allP (decB (bt s 0).toNat ((bytesOf s).drop 1))
    · rw [if_pos ha]
      exact ⟨ha, by rw [encR_bytes hf, str_bytes]⟩
    · rw [if_neg ha] at h; cases h
  · rw [if_neg hf] at h; cases h
theorem dec_false (s : ByteArray) (h : (decR s).2 = false) : (decR s).1 = [] := by
  unfold decR at h ⊢
  by_cases hf : fits s
  · rw [if_pos hf] at h ⊢
    unfold decF' at h ⊢
    by_cases ha : allP (decB (bt s 0).toNat ((bytesOf s).drop 1))
    · rw [if_pos ha] at h; cases h
    · rw [if_neg ha]
  · rw [if_neg hf]
theorem dec_len (s : ByteArray) : (decR s).1.length ≤ 6 := by
  cases h : (decR s).2 with
  | true => exact (dec_true s h).1.2
  | false => rw [dec_false s h]; decide
theorem encR_pos {l : List S49} (h : allP l) : encR l = (strOfNums (encL l), true) := by rw [encR, if_pos h]
theorem encR_neg {l : List S49} (h : ¬ allP l) : encR l = (⟨#[]⟩, false) := by rw [encR, if_neg h]
theorem encR_ne (l : List S49) : ((encR l).2 == ((encR l).1.toList != ([] : List UInt8))) = true := by
  by_cases h : allP l
  · have hs := (dec_enc l h).2.1
    rw [encR_pos h]
    have : (strOfNums (encL l)).toList ≠ [] := fun q => by
      rw [toList_nil, ← List.length_eq_zero_iff, len_bytesOf] at q; omega
    simp [this]
  · rw [encR_neg h]; decide +kernel
theorem wakes_ev : Ev (fun k => umbellaw21_wakes.f k) true := by
  unfold umbellaw21_wakes.f umbelref11_Empty.f
  have hA : allP [(⟨eH, 0, 2⟩ : S49), (⟨hB 7, 5, 3⟩ : S49)] := by
    refine ⟨⟨⟨eH_size, by decide, by decide, .inl ⟨rfl, rfl⟩⟩, by decide, ⟨hB_size 7, by decide, by decide, .inr ⟨by decide, by decide, eH_ne 7 (by decide) (by decide)⟩⟩, by decide, trivial⟩, by decide⟩
  have hB' : ¬ allP [(⟨hB 7, 0, 1⟩ : S49)] := by
    rintro ⟨⟨⟨_, _, _, h⟩, _⟩, _⟩
    rcases h with h | h
    · exact eH_ne 7 (by decide) (by decide) h.2
    · exact absurd h.1 (by decide)
  have h0 : allP [] := ⟨trivial, by decide⟩
  obtain ⟨_, hs, hd⟩ := dec_enc _ hA
  refine Ev.congr (f := _) (fun k => by rw [Option.bind_some]) ?_
  refine Ev.bind (hash_ev 7) ?_
  refine Ev.congr (f := _) (fun k => by rw [Option.bind_some]) ?_
  refine Ev.bind (enc_ev _ (by decide)) ?_
  rw [encR_pos hA]
  refine Ev.bind (dec_ev _) ?_
  rw [hd]
  refine Ev.bind (enc_ev _ (by decide)) ?_
  rw [encR_pos h0]
  refine Ev.bind (hash_ev 7) ?_
  refine Ev.bind (enc_ev _ (by decide)) ?_
  rw [encR_neg hB']
  refine Ev.congr (f := _) (fun k => by rw [if_pos rfl, if_pos (by rw [hs]; rfl), if_pos rfl]) ?_
  refine Ev.bind (same_ev _ (by decide)) ?_
  exact Ev.congr (fun k => by rw [if_pos rfl, if_pos rfl, if_pos (by decide +kernel)]; rfl) (Ev.now true)
theorem wk : Ev (fun k => (umbellaw21_wakes.f k).bind fun t => some t) true := Ev.bind wakes_ev (Ev.now true)
end Go.Proofs.YtbphehijikdkjaaDoor.RngE
