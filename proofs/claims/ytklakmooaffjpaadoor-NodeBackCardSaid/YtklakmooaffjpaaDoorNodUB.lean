import Derived.Test.YtklakmooaffjpaaDoorNodV
import Derived.Test.YtklakmooaffjpaaDoorPNodx16
import Derived.Test.YtklakmooaffjpaaDoorNodOp
section
/-
  An Item's text with a byte more is none's; NodeBack's plain statement.
-/
namespace Go.Proofs.YtklakmooaffjpaaDoor.NodZ
open Go.RowKit Go.Proofs.YtklakmooaffjpaaDoorW.PrintWords Go.Proofs.YtklakmooaffjpaaDoorW.PrintLast Go.Proofs.YtklakmooaffjpaaDoorW.PrintMore Go.Proofs.YtklakmooaffjpaaDoor.PNor Go.Proofs.YtklakmooaffjpaaDoor.NibP Go.Proofs.YtklakmooaffjpaaDoor.NodO Go.Proofs.YtklakmooaffjpaaDoor.NodP Go.Proofs.YtklakmooaffjpaaDoor.NodE Go.Proofs.YtklakmooaffjpaaDoor.NodG Go.Proofs.YtklakmooaffjpaaDoor.NodI Go.Proofs.YtklakmooaffjpaaDoor.NodL
set_option linter.unusedVariables false
theorem nil_app (s : ByteArray) : (⟨#[]⟩ : ByteArray) ++ s = s := by apply bytes_inj; simp [bytesOf]
set_option maxHeartbeats 1000000 in
theorem read_tail (i : It) (hg : goodP i) (k : Nat) (hk : 20000 < k) (T : ByteArray) (hT : T.size ≤ 1000) (L : List ByteArray) (s9 : ByteArray) (R0 : n9rest.f k (allB i.l ++ T) = some (L, s9)) : NodR.read_f k (encB i ++ T) = some (i.k, i.p, i.h, i.v, i.m, L) := by
  have hl := good_len hg
  have hv := hg.2.1
  have hs := hg.1
  have hb := hg.2.2.1
  have hz := NodE.all_size i.l hs
  obtain ⟨a, p, h, v, m, l⟩ := i
  simp only at hl hv hs hb R0 hz ⊢
  unfold NodR.read_f encB
  rcases hg.2.2.2 with ⟨ka, h1, h2, h3, h4⟩ | ⟨ka, h1, h2, h3, h4, h5⟩ | ⟨ka, h1, h2, h3, h4, h5⟩
  · simp only at ka h1 h2 h3 h4
    have hl0 := List.eq_nil_of_length_eq_zero h4
    subst ka h2 h3 hl0
    simp only [if_pos]
    rw [app_assoc, app_assoc, show ((1 : Int) % 256) = 1 from rfl, number_app 1 (by decide) (by decide), Option.bind_some]
    simp only [if_pos]
    rw [path_app p _ h1 (by rw [ByteArray.size_append, vB, ByteArray.size_append, NibP.str_size]; simp; omega) k hk, Option.bind_some]
    dsimp only
    rw [val_app v _ hv, number_app _ (by omega) (by omega), Option.bind_some]
    dsimp only
    rw [take_app v _ _ rfl, Option.bind_some]
    dsimp only
    rw [show allB [] ++ T = T from nil_app T] at R0
    rw [R0, Option.bind_some]
  · simp only at ka h1 h2 h3 h4 h5 hb
    have hv0 : v = (⟨#[]⟩ : ByteArray) := nil_of (hb.resolve_left (by rw [h3]; decide))
    subst ka h3 h4 hv0
    simp only [if_pos, if_neg (show ¬ ((2 : Int) = 1) by decide)]
    rw [app_assoc, app_assoc, show ((2 : Int) % 256) = 2 from rfl, number_app 2 (by decide) (by decide), Option.bind_some]
    simp only [if_pos, if_neg (show ¬ ((2 : Int) = 1) by decide)]
    rw [path_app p _ h1 (by rw [ByteArray.size_append, hz]; omega) k hk, Option.bind_some]
    dsimp only
    rw [R0, Option.bind_some]
  · simp only at ka h1 h2 h3 h4 h5 hb
    have hp0 := nil_of h1
    subst ka hp0
    have j := join256 m h2 h3
    simp only [if_neg (show ¬ ((3 : Int) = 1) by decide), if_neg (show ¬ ((3 : Int) = 2) by decide)]
    by_cases hh : h = true
    · subst hh
      rw [if_pos rfl]
      simp only [app_assoc]
      rw [show ((3 : Int) % 256) = 3 from rfl, number_app 3 (by decide) (by decide), Option.bind_some]
      simp only [if_neg (show ¬ ((3 : Int) = 1) by decide), if_neg (show ¬ ((3 : Int) = 2) by decide), if_pos]
      rw [two_app, number_app _ (by omega) (by omega), Option.bind_some]
      dsimp only
      rw [number_app _ (by omega) (by omega), Option.bind_some]
      dsimp only
      rw [show (⟨#[1]⟩ : ByteArray) = strOfNums [1] from rfl, number_app 1 (by decide) (by decide), Option.bind_some]
      simp only [if_pos]
      rw [val_app v _ hv, number_app _ (by omega) (by omega), Option.bind_some]
      dsimp only
      rw [take_app v _ _ rfl, Option.bind_some]
      dsimp only
      rw [R0, Option.bind_some, j]
    · have hf := Bool.eq_false_iff.2 hh
      have hv0 : v = (⟨#[]⟩ : ByteArray) := nil_of (hb.resolve_left hh)
      subst hf hv0
      rw [if_neg (by decide)]
      simp only [app_assoc]
      rw [show ((3 : Int) % 256) = 3 from rfl, number_app 3 (by decide) (by decide), Option.bind_some]
      simp only [if_neg (show ¬ ((3 : Int) = 1) by decide), if_neg (show ¬ ((3 : Int) = 2) by decide), if_pos]
      rw [two_app, number_app _ (by omega) (by omega), Option.bind_some]
      dsimp only
      rw [number_app _ (by omega) (by omega), Option.bind_some]
      dsimp only
      rw [show (⟨#[0]⟩ : ByteArray) = strOfNums [0] from rfl, number_app 0 (by decide) (by decide), Option.bind_some]
      simp only [if_neg (show ¬ ((0 : Int) = 1) by decide)]
      rw [R0, Option.bind_some, j]
theorem rest_one : ∀ (l : List ByteArray) (acc : List ByteArray) (k : Nat), (∀ x ∈ l, x.size = 32) → l.length + 1 < k → acc.length + l.length ≤ 1000 → n9rest.l0 k acc (allB l ++ (⟨#[0]⟩ : ByteArray)) = some (acc ++ (l ++ [(⟨#[0]⟩ : ByteArray)]), (⟨#[]⟩ : ByteArray))
  | [], acc, k, hs, hk, hl => by
    obtain ⟨k1, rfl⟩ : ∃ k1, k = k1 + 2 := ⟨k - 2, by simp at hk; omega⟩
    have hne : ¬ ((⟨#[0]⟩ : ByteArray)).toList = ([] : List UInt8) := fun q => by
      have h2 := congrArg List.length ((toList_nil _).1 q)
      rw [NibP.len_bytesOf] at h2
      exact absurd h2 (by decide)
    rw [show allB [] ++ (⟨#[0]⟩ : ByteArray) = (⟨#[0]⟩ : ByteArray) from nil_app _, n9rest.l0, if_neg hne, take_all _ 32 (by decide), Option.bind_some, if_pos (by simp at hl; omega)]
    dsimp only
    rw [n9rest.l0, if_pos ((toList_nil _).2 rfl)]; rfl
  | x :: l, acc, k, hs, hk, hl => by
    obtain ⟨k1, rfl⟩ : ∃ k1, k = k1 + 1 := ⟨k - 1, by simp at hk; omega⟩
    have hx := hs x (List.mem_cons_self)
    have hne : ¬ (x ++ (allB l ++ (⟨#[0]⟩ : ByteArray))).toList = ([] : List UInt8) := fun q => by
      have h1 := (toList_nil _).1 q
      have h2 := congrArg List.length h1
      rw [NibP.len_bytesOf, ByteArray.size_append, hx] at h2
      simp at h2
    rw [n9rest.l0, allB, app_assoc, if_neg hne, take_app x _ 32 (by rw [hx]; rfl), Option.bind_some, if_pos (by simp at hl; omega)]
    dsimp only
    rw [rest_one l (acc ++ [x]) k1 (fun y hy => hs y (List.mem_cons_of_mem _ hy)) (by simp at hk; omega) (by simp at hl ⊢; omega), List.append_assoc]; rfl
theorem more_none {i : It} (hg : goodP i) : ∀ j, ¬ isItem (encB i ++ (⟨#[0]⟩ : ByteArray)) j := by
  rintro j ⟨hj, he⟩
  have hl := good_len hg
  have R0 : n9rest.f 20001 (allB i.l ++ (⟨#[0]⟩ : ByteArray)) = some (i.l ++ [(⟨#[0]⟩ : ByteArray)], (⟨#[]⟩ : ByteArray)) := by
    unfold n9rest.f
    rw [rest_one i.l [] 20001 hg.1 (by omega) (by simp; omega)]; rfl
  have h1 := read_tail i hg 20001 (by decide) (⟨#[0]⟩ : ByteArray) (by decide) _ _ R0
  have h2 := read_enc j hj 20001 (by decide)
  rw [he, h1] at h2
  have e := congrArg (fun x => x.2.2.2.2.2) (Option.some.inj h2)
  simp only at e
  have := hj.1 (⟨#[0]⟩ : ByteArray) (by rw [← e]; simp)
  exact absurd this (by decide)
theorem good_p {i : It} (h : goodP i) : i.p.size ≤ 1000 := by
  obtain ⟨_, _, _, h | h | h⟩ := h
  · have := (good_size h.2.1).1; omega
  · have := (good_size h.2.1).1; omega
  · rw [nil_of h.2.1]; exact Nat.zero_le _
theorem j2_f (s : ByteArray) (hs : s.size ≤ 2000) (k : Nat) (hk : 35000 < k) : PNod.u9NodeBack.j2 k s = some true := by
  obtain ⟨k1, rfl⟩ : ∃ k1, k = k1 + 1 := ⟨k - 1, by omega⟩
  rw [PNod.u9NodeBack.j2]
  by_cases hi : ∃ i, isItem s i
  · obtain ⟨i, h⟩ := hi
    rw [dec_pos h (by omega) k1 (by omega), Option.bind_some]
    have hp : i.p.size ≤ 1000 := good_p h.1
    unfold tup
    dsimp only
    rw [if_pos rfl, enc_f i (by omega) k1 (by omega), Option.bind_some, NodN.hash_f i (by omega) k1 (by omega), Option.bind_some, NodP.good_f i (by omega) k1 (by omega)]
    unfold NodE.encR NodN.hashI
    rw [if_pos h.1, if_pos h.1]
    dsimp only
    rw [if_pos rfl, if_pos (by rw [h.2]), decide_eq_true h.1, Option.bind_some, if_pos rfl, if_pos rfl]
    rw [show PNod.digest_Of.f s = some (NodN.ofS s) by unfold PNod.digest_Of.f; rw [if_pos (by omega)]; rfl, Option.bind_some, if_pos (by rw [h.2]), NodW.wakes_f k1 (by omega)]; rfl
  · rw [dec_neg (fun i h => hi ⟨i, h⟩) (by omega) k1 (by omega), Option.bind_some]
    unfold tup It.zero
    dsimp only
    rw [if_neg (by decide), if_pos rfl, if_pos (show (([] : List ByteArray).length : Int) = 0 from rfl), NodW.wakes_f k1 (by omega)]; rfl
theorem j1_f (s : ByteArray) (hs : s.size ≤ 2000) (i j : It) (a b : ByteArray) (y : Bool) (hi : goodP i) (ha : a = encB i) (hb : y = true → goodP j ∧ b = encB j) (li : i.l.length ≤ 5000) (k : Nat) (hk : 36000 < k) :
    PNod.u9NodeBack.j1 k s a b y false i.k i.p i.h i.v i.m i.l j.k j.p j.h j.v j.m j.l = some true := by
  obtain ⟨k1, rfl⟩ : ∃ k1, k = k1 + 1 := ⟨k - 1, by omega⟩
  rw [PNod.u9NodeBack.j1, if_neg (by decide)]
  by_cases hy : y = true
  · obtain ⟨hj, rfl⟩ := hb hy
    rw [if_pos hy, NodT.item_f i j (by omega) k1 (by omega), Option.bind_some, ha, NodV.enc_iff hi hj, if_neg (by simp), j2_f s hs k1 (by omega)]
  · rw [if_neg hy, j2_f s hs k1 (by omega)]
theorem pure (i j : It) (s : ByteArray) (k : Nat) (hk : 40000 < k) : PNod.u9NodeBack.f k i.k i.p i.h i.v i.m i.l j.k j.p j.h j.v j.m j.l s = some true := by
  obtain ⟨b, hb, hf⟩ := NodX.long_f i k (by omega)
  obtain ⟨b', hb', hf'⟩ := NodX.long_f j k (by omega)
  unfold PNod.u9NodeBack.f
  obtain ⟨k1, rfl⟩ : ∃ k1, k = k1 + 1 := ⟨k - 1, by omega⟩
  have W := NodW.wakes_f k1 (by omega)
  have J0 : PNod.u9NodeBack.j0 (k1 + 1) s true i.k i.p i.h i.v i.m i.l j.k j.p j.h j.v j.m j.l = some true := by
    rw [PNod.u9NodeBack.j0, if_pos rfl, W]; rfl
  rw [hb, Option.bind_some, hb', Option.bind_some, J0]
  cases b with
  | true => rw [if_pos rfl]
  | false =>
    rw [if_neg (by decide)]
    cases b' with
    | true => rw [if_pos rfl]
    | false =>
      obtain ⟨h1, h2, h3⟩ := hf rfl
      obtain ⟨g1, g2, g3⟩ := hf' rfl
      rw [if_neg (by decide)]
      by_cases hs : decide ((s.size : Int) > 2000) = true
      · rw [hs]; exact J0
      · have hs0 := Bool.eq_false_iff.2 hs
        have hs1 : s.size ≤ 2000 := by simp at hs; omega
        rw [hs0, PNod.u9NodeBack.j0, if_neg (by decide), enc_f i (by omega) k1 (by omega), Option.bind_some, enc_f j (by omega) k1 (by omega), Option.bind_some, j2_f s hs1 k1 (by omega)]
        unfold NodE.encR
        by_cases gi : goodP i
        · have hz := (NodN.enc_size gi).2
          rw [if_pos gi]
          dsimp only
          rw [if_pos rfl, dec_pos ⟨gi, rfl⟩ (by omega) k1 (by omega), Option.bind_some, if_pos (by omega), dec_neg (more_none gi) (by rw [ByteArray.size_append]; have : (⟨#[0]⟩ : ByteArray).size = 1 := rfl; omega) k1 (by omega), Option.bind_some]
          unfold tup It.zero
          dsimp only
          rw [if_pos rfl, if_neg (by decide), NodT.item_f i i (by omega) k1 (by omega), Option.bind_some, show (!decide (i.k = i.k ∧ i.p = i.p ∧ i.h = i.h ∧ i.v = i.v ∧ i.m = i.m ∧ i.l = i.l)) = false by simp]
          by_cases gj : goodP j
          · rw [if_pos gj]
            exact j1_f s hs1 i j _ _ _ gi rfl (fun _ => ⟨gj, rfl⟩) (by omega) k1 (by omega)
          · rw [if_neg gj]
            exact j1_f s hs1 i j _ _ _ gi rfl (fun h => by cases h) (by omega) k1 (by omega)
        · rw [if_neg gi]
          dsimp only
          rw [if_neg (by decide)]
end Go.Proofs.YtklakmooaffjpaaDoor.NodZ
end

section
/-
  NodeBack: the walk, for the row.
-/
namespace Go.Proofs.YtklakmooaffjpaaDoor.NodUB
open Go.RowKit Go.Proofs.YtklakmooaffjpaaDoorW.PrintWords Go.Proofs.YtklakmooaffjpaaDoorW.PrintMore Go.Proofs.YtklakmooaffjpaaDoor.NodP Go.Proofs.YtklakmooaffjpaaDoor.DgsB
set_option linter.unusedVariables false
theorem walk (a0 : Int) (b0 : ByteArray) (c0 : Bool) (e0 : ByteArray) (f0 : Int) (g0 : Option Addr) (m0 : Nat) (l0 : List ByteArray) (a1 : Int) (b1 : ByteArray) (c1 : Bool) (e1 : ByteArray) (f1 : Int) (g1 : Option Addr) (m1 : Nat) (l1 : List ByteArray) (a2 : ByteArray) (W : World) (hG : Glob W) (h0 : l0.length ≤ m0) (k0 : Kd.C Kd.string W g0 l0.length l0) (x0 : (Lit.int .i64 a0).wf = true) (y0 : (Lit.int .i64 f0).wf = true) (h1 : l1.length ≤ m1) (k1 : Kd.C Kd.string W g1 l1.length l1) (x1 : (Lit.int .i64 a1).wf = true) (y1 : (Lit.int .i64 f1).wf = true) (w2 : a2.size ≤ 140737488351232) :
    Calls Tryd.prog 4 #[.agg #[.int .i64 a0, .string b0, .bool c0, .string e0, .int .i64 f0, .slice g0 l0.length m0], .agg #[.int .i64 a1, .string b1, .bool c1, .string e1, .int .i64 f1, .slice g1 l1.length m1], .string a2] W fun e w' => e = .returned (.bool true) ∧ Below W.heap.size W w' :=
  PNod.u9NodeBack.calls 40001 a0 b0 c0 e0 f0 g0 m0 l0 a1 b1 c1 e1 f1 g1 m1 l1 a2 true W k0 h0 k1 h1 hG (NodZ.pure ⟨a0, b0, c0, e0, f0, l0⟩ ⟨a1, b1, c1, e1, f1, l1⟩ a2 40001 (by decide))
end Go.Proofs.YtklakmooaffjpaaDoor.NodUB
end
