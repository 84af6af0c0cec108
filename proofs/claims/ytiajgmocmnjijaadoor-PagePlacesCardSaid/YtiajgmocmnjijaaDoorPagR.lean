/-
  The reference's page in plain lists: it answers as the program's.
-/
import Derived.Test.YtiajgmocmnjijaaDoorPPagx8
import Derived.Test.YtiajgmocmnjijaaDoorPagQ
namespace Go.Proofs.YtiajgmocmnjijaaDoor.PagR
open Go.RowKit Go.Proofs.YtiajgmocmnjijaaDoor.PPag Go.Proofs.YtiajgmocmnjijaaDoorW.PrintWords Go.Proofs.YtiajgmocmnjijaaDoorW.PrintLast Go.Proofs.YtiajgmocmnjijaaDoorW.PrintMore Go.Proofs.YtiajgmocmnjijaaDoor.Str Go.Proofs.YtiajgmocmnjijaaDoor.Dig Go.Proofs.YtiajgmocmnjijaaDoor.PagH Go.Proofs.YtiajgmocmnjijaaDoor.PagP Go.Proofs.YtiajgmocmnjijaaDoor.PagQ
set_option linter.unusedVariables false
theorem shr64 (v : Int) (s : Nat) (hs : s < 64) : shr .i64 v (s : Int) = v / 2 ^ s := by
  unfold shr
  rw [Int.toNat_natCast, show IntKind.i64.bits = 64 from rfl, Nat.min_eq_left (by omega)]
theorem sh0 (v : Int) : shr .i64 v (IntKind.u64.wrap (wrap64 (8 * 0))) = v := by
  rw [show IntKind.u64.wrap (wrap64 (8 * 0)) = ((0 : Nat) : Int) by decide +kernel, shr64 v 0 (by decide)]; omega
theorem sh1 (v : Int) : shr .i64 v (IntKind.u64.wrap (wrap64 (8 * 1))) = v / 256 := by
  rw [show IntKind.u64.wrap (wrap64 (8 * 1)) = ((8 : Nat) : Int) by decide +kernel, shr64 v 8 (by decide)]; rfl
theorem sh2 (v : Int) : shr .i64 v (IntKind.u64.wrap (wrap64 (8 * 2))) = v / 65536 := by
  rw [show IntKind.u64.wrap (wrap64 (8 * 2)) = ((16 : Nat) : Int) by decide +kernel, shr64 v 16 (by decide)]; rfl
theorem sh3 (v : Int) : shr .i64 v (IntKind.u64.wrap (wrap64 (8 * 3))) = v / 16777216 := by
  rw [show IntKind.u64.wrap (wrap64 (8 * 3)) = ((24 : Nat) : Int) by decide +kernel, shr64 v 24 (by decide)]; rfl
theorem g0 : 0 ≤ IntKind.u64.wrap (wrap64 (8 * 0)) := by decide +kernel
theorem g1 : 0 ≤ IntKind.u64.wrap (wrap64 (8 * 1)) := by decide +kernel
theorem g2 : 0 ≤ IntKind.u64.wrap (wrap64 (8 * 2)) := by decide +kernel
theorem g3 : 0 ≤ IntKind.u64.wrap (wrap64 (8 * 3)) := by decide +kernel
theorem n0 : wrap64 (1 - 1) = 0 := by decide +kernel
theorem n1 : wrap64 (2 - 1) = 1 := by decide +kernel
theorem n2 : wrap64 (3 - 1) = 2 := by decide +kernel
theorem n3 : wrap64 (4 - 1) = 3 := by decide +kernel
theorem nm : wrap64 (0 - 1) = -1 := by decide +kernel
theorem big1 (v : Int) : Ev (fun k => umbelref07_big.f k v 1) (strOfNums [v % 256]) := by
  refine Ev.of (umbelref07_big.mono v 1) (k := 2) ?_
  unfold umbelref07_big.f
  rw [n0]
  simp only [umbelref07_big.l0]
  rw [if_pos (by decide), if_pos g0, if_pos (by simp), nm, if_neg (by decide), sh0]; rfl
theorem big2 (v : Int) : Ev (fun k => umbelref07_big.f k v 2) (strOfNums [v / 256 % 256, v % 256]) := by
  refine Ev.of (umbelref07_big.mono v 2) (k := 3) ?_
  unfold umbelref07_big.f
  rw [n1]
  simp only [umbelref07_big.l0]
  rw [if_pos (by decide), if_pos g1, if_pos (by simp), n0, if_pos (by decide), if_pos g0, if_pos (by simp), nm, if_neg (by decide), sh1, sh0]; rfl
theorem big4 (v : Int) : Ev (fun k => umbelref07_big.f k v 4) (strOfNums [v / 16777216 % 256, v / 65536 % 256, v / 256 % 256, v % 256]) := by
  refine Ev.of (umbelref07_big.mono v 4) (k := 5) ?_
  unfold umbelref07_big.f
  rw [n3]
  simp only [umbelref07_big.l0]
  rw [if_pos (by decide), if_pos g3, if_pos (by simp), n2, if_pos (by decide), if_pos g2, if_pos (by simp), n1, if_pos (by decide), if_pos g1, if_pos (by simp), n0, if_pos (by decide), if_pos g0, if_pos (by simp), nm, if_neg (by decide), sh3, sh2, sh1, sh0]; rfl
theorem rof_ok (s : ByteArray) (hs : s.size ≤ 140737488351232) : umbelref03_Of.f s = some (crcI s) := by
  show rof_f s = _
  unfold rof_f
  rw [if_pos hs]; rfl
theorem rput_ev (a b at' : Int) (pl : ByteArray) (hp : pl.size ≤ 140737488351232) : Ev (fun k => umbelref07_Put.f k a b pl at') (putR a b at' pl).1 := by
  have ht : ∀ k, umbelref07_Put.j0 (k + 1) at' true a b pl = some (⟨#[]⟩ : ByteArray) := fun k => by rw [umbelref07_Put.j0, if_pos rfl]
  have hn : ¬ okP a b at' pl → Ev (fun k => umbelref07_Put.j0 k at' true a b pl) (putR a b at' pl).1 := fun hq => by
    rw [putR, if_neg hq]
    exact Ev.of (fun k => (umbelref07_Put.mono_l k) _ _ _ _ _) (k := 1) (ht 0)
  unfold umbelref07_Put.f
  by_cases c1 : a < 1
  · exact Ev.congr (fun k => by rw [if_pos c1]) (hn (fun q => by have := q.1; omega))
  by_cases c2 : a > 255
  · exact Ev.congr (fun k => by rw [if_neg c1, if_pos c2]) (hn (fun q => by have := q.2.1; omega))
  by_cases c3 : at' < 0
  · exact Ev.congr (fun k => by rw [if_neg c1, if_neg c2, if_pos c3]) (hn (fun q => by have := q.2.2.1; omega))
  by_cases c4 : at' > 65535
  · exact Ev.congr (fun k => by rw [if_neg c1, if_neg c2, if_neg c3, if_pos c4]) (hn (fun q => by have := q.2.2.2.1; omega))
  by_cases c5 : b < 0
  · exact Ev.congr (fun k => by rw [if_neg c1, if_neg c2, if_neg c3, if_neg c4, if_pos c5]) (hn (fun q => by have := q.2.2.2.2.1; omega))
  by_cases c6 : b > 2147483647
  · exact Ev.congr (fun k => by rw [if_neg c1, if_neg c2, if_neg c3, if_neg c4, if_neg c5, if_pos c6]) (hn (fun q => by have := q.2.2.2.2.2.1; omega))
  by_cases c7 : (pl.size : Int) > 243
  · exact Ev.congr (fun k => by rw [if_neg c1, if_neg c2, if_neg c3, if_neg c4, if_neg c5, if_neg c6, decide_eq_true c7]) (hn (fun q => by have := q.2.2.2.2.2.2; omega))
  have ho : okP a b at' pl := ⟨by omega, by omega, by omega, by omega, by omega, by omega, by omega⟩
  have hl := bodyL_len a b at' pl (by omega)
  have e5 : ((((strOfNums [a % 256] ++ strOfNums [at' / 256 % 256, at' % 256]) ++ strOfNums [b / 16777216 % 256, b / 65536 % 256, b / 256 % 256, b % 256]) ++ strOfNums [(pl.size : Int) / 256 % 256, (pl.size : Int) % 256]) ++ pl).size = 9 + pl.size := by
    simp only [ByteArray.size_append, str_size]; rfl
  have w1 : wrap64 (252 - ((9 + pl.size : Nat) : Int)) = ((243 - pl.size : Nat) : Int) := by unfold wrap64; omega
  have hb : ((((strOfNums [a % 256] ++ strOfNums [at' / 256 % 256, at' % 256]) ++ strOfNums [b / 16777216 % 256, b / 65536 % 256, b / 256 % 256, b % 256]) ++ strOfNums [(pl.size : Int) / 256 % 256, (pl.size : Int) % 256]) ++ pl) ++ strOfNums (List.replicate (243 - pl.size) 0) = strOfNums (bodyL a b at' pl) := by
    rw [bodyL, str_app, str_app, str_bytes]
    simp only [← str_app]; rfl
  refine Ev.congr (f := _) (fun k => by rw [if_neg c1, if_neg c2, if_neg c3, if_neg c4, if_neg c5, if_neg c6, decide_eq_false c7]) ?_
  refine Ev.step (f := _) (fun k => by rw [umbelref07_Put.j0, if_neg (by decide)]) ?_
  refine Ev.bind (big1 a) ?_
  refine Ev.bind (big2 at') ?_
  refine Ev.congr (f := _) (fun k => by rw [if_pos (by simp [str_size])]) ?_
  refine Ev.bind (big4 b) ?_
  refine Ev.congr (f := _) (fun k => by rw [if_pos (by simp [ByteArray.size_append, str_size])]) ?_
  refine Ev.bind (big2 (pl.size : Int)) ?_
  refine Ev.congr (f := fun _ => some (strOfNums (fullL a b at' pl))) (fun k => ?_) (by rw [putR, if_pos ho]; exact Ev.now _)
  rw [if_pos (by simp [ByteArray.size_append, str_size]), if_pos (by rw [← ByteArray.size_append, e5]; omega), e5, w1, if_pos (by omega), if_pos (by omega), Option.bind_some, Int.toNat_natCast,
    if_pos (by rw [str_size, List.length_replicate]; omega), hb, rof_ok _ (by rw [str_size, hl]; decide), Option.bind_some, show ∀ v, umbelref03_Put.f v = some (strOfNums (putL v)) from fun _ => rfl, Option.bind_some, if_pos (by rw [str_size, str_size, hl]; simp [putL]), fullL, str_app]
theorem num_l0 (s : ByteArray) (hs : s.size ≤ 4) : ∀ m i : Nat, m + i = s.size → umbelref07_num.l0 (m + 1) s ((de ((bytesOf s).take i) : Nat) : Int) (i : Int) = some ((de (bytesOf s) : Nat) : Int)
  | 0, i, h => by
    rw [umbelref07_num.l0, if_neg (by omega), List.take_of_length_le (by rw [len_bytesOf]; omega)]
  | m + 1, i, h => by
    have hl : i < (bytesOf s).length := by rw [len_bytesOf]; omega
    have hR := R_bytesOf s
    have hb := bt_range s i
    have hd := de_lt ((bytesOf s).take i) (fun x hx => hR x (List.mem_of_mem_take hx))
    rw [List.length_take, Nat.min_eq_left (by omega)] at hd
    have hd2 : de ((bytesOf s).take i) < 16777216 := Nat.lt_of_lt_of_le hd (Nat.le_trans (Nat.pow_le_pow_right (by decide) (show i ≤ 3 by omega)) (by decide))
    obtain ⟨c, hc⟩ : ∃ c : Nat, bt s (i : Int) = (c : Int) := ⟨_, (Int.toNat_of_nonneg hb.1).symm⟩
    have hsn : de ((bytesOf s).take (i + 1)) = de ((bytesOf s).take i) * 256 + c := by
      rw [List.take_succ_eq_append_getElem hl, de_snoc]
      congr 1
      have h3 : bt s (i : Int) = (bytesOf s)[i] := by rw [bt_rd]; simp [rd, List.getD_eq_getElem?_getD, hl]
      rw [← h3, hc]; rfl
    rw [umbelref07_num.l0, if_pos (by omega), if_pos (by omega), hc, or_byte64 _ _ (by omega) (by omega), ← hsn, show wrap64 ((i : Int) + 1) = ((i + 1 : Nat) : Int) from wr (by omega) (by omega)]
    exact num_l0 s hs m (i + 1) (by omega)
theorem num_ev (s : ByteArray) (hs : s.size ≤ 4) : Ev (fun k => umbelref07_num.f k s) ((de (bytesOf s) : Nat) : Int) :=
  Ev.of (umbelref07_num.mono s) (k := s.size + 1) (num_l0 s hs s.size 0 rfl)
theorem page_num {s : ByteArray} {at' a b : Int} {pl : ByteArray} (h : isPage s at' a b pl) : numA s 7 9 = (pl.size : Int) := by
  obtain ⟨r, hr⟩ := fullL_eq a b at' pl
  have hb := (page_bytes h).trans hr
  obtain ⟨⟨a1, a2, t1, t2, b1, b2, hp⟩, _⟩ := h
  rw [numA, bytes_extract, hb]
  show ((de [(pl.size : Int) / 256 % 256, (pl.size : Int) % 256] : Nat) : Int) = _
  rw [de2]; omega
theorem rget_ev (s : ByteArray) (at' : Int) : Ev (fun k => umbelref07_Get.f k s at') ((getR s at').1, (getR s at').2.1, (getR s at').2.2.1, decide ((getR s at').2.2.2 = 0)) := by
  have hneg : (∀ a b pl, ¬ isPage s at' a b pl) → ((getR s at').1, (getR s at').2.1, (getR s at').2.2.1, decide ((getR s at').2.2.2 = 0)) = ((0 : Int), (0 : Int), (⟨#[]⟩ : ByteArray), false) := fun h => by rw [get_neg h]; rfl
  unfold umbelref07_Get.f
  by_cases hs : s.size = 256
  · have z : ∀ i j : Nat, j - i ≤ 4 → (s.extract i j).size ≤ 4 := fun i j q => by rw [ByteArray.size_extract]; omega
    refine Ev.congr (f := _) (fun k => by rw [if_pos (by omega), if_pos (by decide), if_pos (by omega)]) ?_
    refine Ev.bind (a := numA s 7 9) (num_ev _ (z 7 9 (by decide))) ?_
    have hr := numA_range s 7 9 2 (by decide)
    by_cases hn : numA s 7 9 > 243
    · rw [hneg (fun a b pl h => by have := page_num h; have := h.1.2.2.2.2.2.2; omega)]
      exact Ev.congr (fun k => by rw [if_pos hn]) (Ev.now _)
    · have hl : numA s 7 9 = (lenA s : Int) := by unfold numA lenA at *; omega
      have hl2 : lenA s ≤ 243 := by unfold lenA; omega
      have w1 : wrap64 (9 + (lenA s : Int)) = ((9 + lenA s : Nat) : Int) := by unfold wrap64; omega
      refine Ev.congr (f := _) (fun k => by rw [if_neg hn, if_pos (by decide), if_pos (by omega)]) ?_
      refine Ev.bind (a := numA s 0 1) (num_ev _ (z 0 1 (by decide))) ?_
      refine Ev.congr (f := _) (fun k => by rw [if_pos (by decide), if_pos (by omega)]) ?_
      refine Ev.bind (a := numA s 3 7) (num_ev _ (z 3 7 (by decide))) ?_
      rw [hl, w1]
      refine Ev.congr (f := _) (fun k => by rw [if_pos (by omega), if_pos (by omega), Int.toNat_natCast]) ?_
      refine Ev.bind (rput_ev (numA s 0 1) (numA s 3 7) at' (s.extract 9 (9 + lenA s)) (by rw [ByteArray.size_extract]; omega)) ?_
      by_cases hp : isPage s at' (numA s 0 1) (numA s 3 7) (s.extract 9 (9 + lenA s))
      · have he : putR (numA s 0 1) (numA s 3 7) at' (s.extract 9 (9 + lenA s)) = (s, true) := by rw [putR, if_pos hp.1, ← hp.2]
        rw [he, get_pos hp]
        exact Ev.congr (f := fun _ => some (numA s 0 1, numA s 3 7, s.extract 9 (9 + lenA s), true)) (fun k => by rw [if_pos rfl]) (by simp; exact Ev.now _)
      · have hq : ∀ a b pl, ¬ isPage s at' a b pl := fun a b pl h => hp (by
          have e := page_read h
          unfold readR at e
          simp only [Prod.mk.injEq] at e
          rw [e.1, e.2.1, e.2.2.1]; exact h)
        rw [hneg hq]
        refine Ev.congr (fun k => if_neg (fun q => ?_)) (Ev.now _)
        rw [toList_inj] at q
        by_cases ho : okP (numA s 0 1) (numA s 3 7) at' (s.extract 9 (9 + lenA s))
        · rw [putR, if_pos ho] at q
          exact hp ⟨ho, q.symm⟩
        · rw [putR, if_neg ho] at q
          rw [← q] at hs
          exact absurd hs (by decide)
  · rw [hneg (fun a b pl h => hs (page_size h))]
    exact Ev.congr (fun k => by rw [if_neg (by omega)]) (Ev.now _)
theorem rright_eq (s : ByteArray) : umbelref07_Right.f s = some (decide (rightP s)) := by
  unfold umbelref07_Right.f
  by_cases h : s.size = 256
  · rw [if_pos (by omega), if_pos (by decide), if_pos (by omega), rof_ok _ (by rw [ByteArray.size_extract]; omega), Option.bind_some, show ∀ v, umbelref03_Put.f v = some (strOfNums (putL v)) from fun _ => rfl, Option.bind_some, h]
    refine congrArg some ?_
    have hz : (s.extract 252 256).size = 4 := by rw [ByteArray.size_extract]; omega
    have hr := crcI_range (s.extract 0 252)
    rw [Bool.eq_iff_iff, decide_eq_true_iff, beq_iff_eq, toList_inj]
    exact ⟨fun q => ⟨h, by rw [← q, get_put _ hr.1 hr.2]⟩, fun q => by rw [← q.2, put_get _ hz]⟩
  · rw [if_neg (by omega)]
    refine congrArg some ?_
    symm; rw [decide_eq_false_iff_not]; exact fun q => h q.1
end Go.Proofs.YtiajgmocmnjijaaDoor.PagR
