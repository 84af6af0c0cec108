/-
  The reference's superblock in plain lists: it answers as the program's.
-/
import Derived.Test.YtiajgmocmnjijaaDoorPSupx9
import Derived.Test.YtiajgmocmnjijaaDoorSupP
namespace Go.Proofs.YtiajgmocmnjijaaDoor.SupR
open Go.RowKit Go.Proofs.YtiajgmocmnjijaaDoor.PSup Go.Proofs.YtiajgmocmnjijaaDoorW.PrintWords Go.Proofs.YtiajgmocmnjijaaDoorW.PrintLast Go.Proofs.YtiajgmocmnjijaaDoorW.PrintMore Go.Proofs.YtiajgmocmnjijaaDoor.Str Go.Proofs.YtiajgmocmnjijaaDoor.Dig Go.Proofs.YtiajgmocmnjijaaDoor.PagH Go.Proofs.YtiajgmocmnjijaaDoor.SupP
set_option linter.unusedVariables false
theorem sh0 (v : Int) : shr .i64 v (IntKind.u64.wrap (wrap64 (8 * 0))) = v := by
  rw [show IntKind.u64.wrap (wrap64 (8 * 0)) = ((0 : Nat) : Int) by decide +kernel, shr64 v 0 (by decide)]; omega
theorem sh1 (v : Int) : shr .i64 v (IntKind.u64.wrap (wrap64 (8 * 1))) = v / 256 := by
  rw [show IntKind.u64.wrap (wrap64 (8 * 1)) = ((8 : Nat) : Int) by decide +kernel, shr64 v 8 (by decide)]; rfl
theorem sh2 (v : Int) : shr .i64 v (IntKind.u64.wrap (wrap64 (8 * 2))) = v / 65536 := by
  rw [show IntKind.u64.wrap (wrap64 (8 * 2)) = ((16 : Nat) : Int) by decide +kernel, shr64 v 16 (by decide)]; rfl
theorem sh3 (v : Int) : shr .i64 v (IntKind.u64.wrap (wrap64 (8 * 3))) = v / 16777216 := by
  rw [show IntKind.u64.wrap (wrap64 (8 * 3)) = ((24 : Nat) : Int) by decide +kernel, shr64 v 24 (by decide)]; rfl
theorem g0 : 0 ≤ IntKind.u64.wrap (wrap64 (8 * 0)) := by decide +kernel
theorem g1 : 0 ≤ IntKind.u64.wrap (wrap64 (8 * 1)) := by decide +kernel
theorem g2 : 0 ≤ IntKind.u64.wrap (wrap64 (8 * 2)) := by decide +kernel
theorem g3 : 0 ≤ IntKind.u64.wrap (wrap64 (8 * 3)) := by decide +kernel
theorem n0 : wrap64 (1 - 1) = 0 := by decide +kernel
theorem n1 : wrap64 (2 - 1) = 1 := by decide +kernel
theorem n2 : wrap64 (3 - 1) = 2 := by decide +kernel
theorem n3 : wrap64 (4 - 1) = 3 := by decide +kernel
theorem nm : wrap64 (0 - 1) = -1 := by decide +kernel
theorem big1 (v : Int) : Ev (fun k => umbelref23_big.f k v 1) (strOfNums (b1 v)) := by
  refine Ev.of (umbelref23_big.mono v 1) (k := 2) ?_
  unfold umbelref23_big.f
  rw [n0]
  simp only [umbelref23_big.l0]
  rw [if_pos (by decide), if_pos g0, if_pos (by simp), nm, if_neg (by decide), sh0]; rfl
theorem big2 (v : Int) : Ev (fun k => umbelref23_big.f k v 2) (strOfNums (b2 v)) := by
  refine Ev.of (umbelref23_big.mono v 2) (k := 3) ?_
  unfold umbelref23_big.f
  rw [n1]
  simp only [umbelref23_big.l0]
  rw [if_pos (by decide), if_pos g1, if_pos (by simp), n0, if_pos (by decide), if_pos g0, if_pos (by simp), nm, if_neg (by decide), sh1, sh0]; rfl
theorem big4 (v : Int) : Ev (fun k => umbelref23_big.f k v 4) (strOfNums (b4 v)) := by
  refine Ev.of (umbelref23_big.mono v 4) (k := 5) ?_
  unfold umbelref23_big.f
  rw [n3]
  simp only [umbelref23_big.l0]
  rw [if_pos (by decide), if_pos g3, if_pos (by simp), n2, if_pos (by decide), if_pos g2, if_pos (by simp), n1, if_pos (by decide), if_pos g1, if_pos (by simp), n0, if_pos (by decide), if_pos g0, if_pos (by simp), nm, if_neg (by decide), sh3, sh2, sh1, sh0]; rfl
theorem rof_ok (s : ByteArray) (hs : s.size ≤ 140737488351232) : umbelref03_Of.f s = some (crcI s) := by
  show rof_f s = _
  unfold rof_f
  rw [if_pos hs]; rfl
theorem num_l0 (s : ByteArray) (hs : s.size ≤ 4) : ∀ m i : Nat, m + i = s.size → umbelref23_num.l0 (m + 1) s ((de ((bytesOf s).take i) : Nat) : Int) (i : Int) = some ((de (bytesOf s) : Nat) : Int)
  | 0, i, h => by
    rw [umbelref23_num.l0, if_neg (by omega), List.take_of_length_le (by rw [len_bytesOf]; omega)]
  | m + 1, i, h => by
    have hl : i < (bytesOf s).length := by rw [len_bytesOf]; omega
    have hR := R_bytesOf s
    have hb := bt_range s i
    have hd := de_lt ((bytesOf s).take i) (fun x hx => hR x (List.mem_of_mem_take hx))
    rw [List.length_take, Nat.min_eq_left (by omega)] at hd
    have hd2 : de ((bytesOf s).take i) < 16777216 := Nat.lt_of_lt_of_le hd (Nat.le_trans (Nat.pow_le_pow_right (by decide) (show i ≤ 3 by omega)) (by decide))
    obtain ⟨c, hc⟩ : ∃ c : Nat, bt s (i : Int) = (c : Int) := ⟨_, (Int.toNat_of_nonneg hb.1).symm⟩
    have hsn : de ((bytesOf s).take (i + 1)) = de ((bytesOf s).take i) * 256 + c := by
      rw [List.take_succ_eq_append_getElem hl, de_snoc]
      congr 1
      have h3 : bt s (i : Int) = (bytesOf s)[i] := by rw [bt_rd]; simp [rd, List.getD_eq_getElem?_getD, hl]
      rw [← h3, hc]; rfl
    rw [umbelref23_num.l0, if_pos (by omega), if_pos (by omega), hc, or_byte64 _ _ (by omega) (by omega), ← hsn, show wrap64 ((i : Int) + 1) = ((i + 1 : Nat) : Int) from wr (by omega) (by omega)]
    exact num_l0 s hs m (i + 1) (by omega)
theorem num_ev (s : ByteArray) (hs : s.size ≤ 4) : Ev (fun k => umbelref23_num.f k s) ((de (bytesOf s) : Nat) : Int) :=
  Ev.of (umbelref23_num.mono s) (k := s.size + 1) (num_l0 s hs s.size 0 rfl)
theorem rgood_eq (s : Sb) : umbelref23_Good.f s.q s.g s.l s.r s.t s.c = some (decide (goodP s)) := by
  show some (SupD.rg s.q s.g s.l s.r s.t s.c) = _
  congr 1
  unfold SupD.rg
  by_cases h : goodP s
  · obtain ⟨⟨q1, q2⟩, ⟨g1, g2⟩, ⟨l1, l2⟩, ⟨r1, r2⟩, ht, hn, c1, c2⟩ := id h
    rw [if_pos q1, if_pos q2, if_pos g1, if_pos g2, if_pos l1, if_pos l2, if_pos r1, if_pos (by omega), decide_eq_true h]
    by_cases h0 : s.t = 0
    · rw [if_pos h0, if_pos c1, decide_eq_true c2]
    · have h2 := ht.resolve_left h0
      rw [if_neg h0, if_pos h2.1, if_pos (by omega), if_neg hn, if_pos c1, decide_eq_true c2]
  · rw [decide_eq_false h]
    have k : ∀ {p : Prop} [Decidable p] {x : Bool}, (p → x = false) → (if p then x else false) = false := fun {p} _ {x} hx => by
      by_cases hp : p
      · rw [if_pos hp]; exact hx hp
      · rw [if_neg hp]
    refine k (fun q1 => k (fun q2 => k (fun g1 => k (fun g2 => k (fun l1 => k (fun l2 => k (fun r1 => k (fun r2 => ?_))))))))
    by_cases h0 : s.t = 0
    · rw [if_pos h0]
      refine k (fun c1 => ?_)
      rw [decide_eq_false_iff_not]
      exact fun c2 => h ⟨⟨q1, q2⟩, ⟨g1, g2⟩, ⟨l1, l2⟩, ⟨r1, by omega⟩, Or.inl h0, by omega, c1, c2⟩
    · rw [if_neg h0]
      refine k (fun t1 => k (fun t2 => ?_))
      by_cases hn : s.t = s.r
      · rw [if_pos hn]
      · rw [if_neg hn]
        refine k (fun c1 => ?_)
        rw [decide_eq_false_iff_not]
        exact fun c2 => h ⟨⟨q1, q2⟩, ⟨g1, g2⟩, ⟨l1, l2⟩, ⟨r1, by omega⟩, Or.inr ⟨t1, by omega⟩, hn, c1, c2⟩
theorem renc_ev (s : Sb) : Ev (fun k => umbelref23_Encode.f k s.q s.g s.l s.r s.t s.c) (encR s).1 := by
  have hm : (⟨#[85, 77, 66, 49]⟩ : ByteArray) = strOfNums [85, 77, 66, 49] := rfl
  unfold umbelref23_Encode.f
  rw [hm, rgood_eq]
  by_cases h : goodP s
  · rw [encR, if_pos h]
    refine Ev.congr (f := _) (fun k => by rw [Option.bind_some, if_pos (decide_eq_true h)]) ?_
    refine Ev.bind (big4 s.q) ?_
    refine Ev.congr (f := _) (fun k => by rw [if_pos (by simp [str_size, b4])]) ?_
    refine Ev.bind (big4 s.g) ?_
    refine Ev.congr (f := _) (fun k => by rw [if_pos (by simp [ByteArray.size_append, str_size, b4])]) ?_
    refine Ev.bind (big2 s.l) ?_
    refine Ev.congr (f := _) (fun k => by rw [if_pos (by simp [ByteArray.size_append, str_size, b4, b2])]) ?_
    refine Ev.bind (big2 s.r) ?_
    refine Ev.congr (f := _) (fun k => by rw [if_pos (by simp [ByteArray.size_append, str_size, b4, b2])]) ?_
    refine Ev.bind (big2 s.t) ?_
    refine Ev.congr (f := _) (fun k => by rw [if_pos (by simp [ByteArray.size_append, str_size, b4, b2])]) ?_
    refine Ev.bind (big1 s.c) ?_
    refine Ev.congr (f := fun _ => some (strOfNums (encL s))) (fun k => ?_) (Ev.now _)
    rw [if_pos (by simp [ByteArray.size_append, str_size, b4, b2, b1])]
    simp only [← str_app]
    have hl : (headS s).length = 19 := by simp [headS, b4, b2, b1]
    have w1 : wrap64 (60 - ((19 : Nat) : Int)) = ((41 : Nat) : Int) := by decide +kernel
    rw [show ([85, 77, 66, 49] : List Int) ++ b4 s.q ++ b4 s.g ++ b2 s.l ++ b2 s.r ++ b2 s.t ++ b1 s.c = headS s from rfl, str_size, hl, w1, if_pos (by decide), Int.toNat_natCast, if_pos (by decide), Option.bind_some, if_pos (by rw [str_size, List.length_replicate]; omega)]
    rw [← bodyS_def s, rof_ok _ (by rw [str_size, bodyS_len]; decide), Option.bind_some, show ∀ v, umbelref03_Put.f v = some (strOfNums (putL v)) from fun _ => rfl, Option.bind_some, if_pos (by rw [str_size, str_size, bodyS_len]; simp [putL]), if_pos (by decide), Option.bind_some]
    simp only [← str_app]
    rw [show bodyS s ++ putL (crcI (strOfNums (bodyS s))) = sectL s from rfl, if_pos (by rw [str_size, str_size, sectL_len, List.length_replicate]; omega)]; rfl
  · rw [encR, if_neg h]
    exact Ev.congr (f := fun _ => some (⟨#[]⟩ : ByteArray)) (fun k => by rw [Option.bind_some, if_neg (by rw [decide_eq_true_iff]; exact h)]) (Ev.now _)
theorem rdec_ev (b : ByteArray) : Ev (fun k => umbelref23_Decode.f k b) (tup (decR b).1 (decR b).2) := by
  unfold umbelref23_Decode.f
  by_cases hs : b.size = 256
  · have z : ∀ i j : Nat, j - i ≤ 4 → (b.extract i j).size ≤ 4 := fun i j q => by rw [ByteArray.size_extract]; omega
    refine Ev.congr (f := _) (fun k => by rw [if_pos (by omega), if_pos (by decide), if_pos (by omega)]) ?_
    refine Ev.bind (a := numA b 4 8) (num_ev _ (z 4 8 (by decide))) ?_
    refine Ev.congr (f := _) (fun k => by rw [if_pos (by decide), if_pos (by omega)]) ?_
    refine Ev.bind (a := numA b 8 12) (num_ev _ (z 8 12 (by decide))) ?_
    refine Ev.congr (f := _) (fun k => by rw [if_pos (by decide), if_pos (by omega)]) ?_
    refine Ev.bind (a := numA b 12 14) (num_ev _ (z 12 14 (by decide))) ?_
    refine Ev.congr (f := _) (fun k => by rw [if_pos (by decide), if_pos (by omega)]) ?_
    refine Ev.bind (a := numA b 14 16) (num_ev _ (z 14 16 (by decide))) ?_
    refine Ev.congr (f := _) (fun k => by rw [if_pos (by decide), if_pos (by omega)]) ?_
    refine Ev.bind (a := numA b 16 18) (num_ev _ (z 16 18 (by decide))) ?_
    refine Ev.congr (f := _) (fun k => by rw [if_pos (by decide), if_pos (by omega)]) ?_
    refine Ev.bind (a := numA b 18 19) (num_ev _ (z 18 19 (by decide))) ?_
    refine Ev.bind (renc_ev (readS b)) ?_
    by_cases hg : goodP (readS b)
    · have he : (encR (readS b)).1 = strOfNums (encL (readS b)) := by rw [encR, if_pos hg]
      have hl : (strOfNums (encL (readS b))).size = 256 := by rw [str_size, encL_len]
      have hne : ¬ (strOfNums (encL (readS b))).toList = ([] : List UInt8) := fun q => by
        rw [toList_nil, bytes_str _ (R_encL _)] at q
        have := encL_len (readS b)
        rw [q] at this
        exact absurd this (by decide)
      have hx : (strOfNums (encL (readS b))).extract 0 64 = strOfNums (sectL (readS b)) := by
        rw [str_extract (R_encL _), encL, ← sectL_len (readS b), List.take_left]
      rw [he]
      by_cases h : b.extract 0 64 = strOfNums (sectL (readS b))
      · have hd : decR b = (readS b, true) := by rw [decR, if_pos ⟨hs, hg, h⟩]
        rw [hd]
        exact Ev.congr (f := fun _ => some (tup (readS b) true)) (fun k => by rw [if_neg hne, if_pos (by decide), if_pos (by omega), if_pos (by omega), if_pos (by rw [hx, h])]; rfl) (Ev.now _)
      · have hd : decR b = (Sb.zero, false) := by rw [decR, if_neg (fun q => h q.2.2)]
        rw [hd]
        exact Ev.congr (f := fun _ => some (tup Sb.zero false)) (fun k => by rw [if_neg hne, if_pos (by decide), if_pos (by omega), if_pos (by omega), if_neg (fun q => h (((toList_inj _ _).1 q).symm.trans hx))]; rfl) (Ev.now _)
    · have he : (encR (readS b)).1 = (⟨#[]⟩ : ByteArray) := by rw [encR, if_neg hg]
      have hd : decR b = (Sb.zero, false) := by rw [decR, if_neg (fun q => hg q.2.1)]
      rw [he, hd]
      exact Ev.congr (f := fun _ => some (tup Sb.zero false)) (fun k => by rw [if_pos ((toList_nil _).2 rfl)]; rfl) (Ev.now _)
  · have hd : decR b = (Sb.zero, false) := by rw [decR, if_neg (fun q => hs q.1)]
    rw [hd]
    exact Ev.congr (f := fun _ => some (tup Sb.zero false)) (fun k => by rw [if_neg (by omega)]; rfl) (Ev.now _)
/-- What the reference's Choose hands back. -/
def rchoR (a b : ByteArray) : Sb × Int := if (decR a).2 = true ∧ ((decR b).2 = false ∨ (decR a).1.q ≥ (decR b).1.q) then ((decR a).1, 0) else if (decR b).2 = true then ((decR b).1, 1) else (Sb.zero, -1)
theorem rcho_ev (a b : ByteArray) : Ev (fun k => umbelref23_Choose.f k a b) ((rchoR a b).1.q, (rchoR a b).1.g, (rchoR a b).1.l, (rchoR a b).1.r, (rchoR a b).1.t, (rchoR a b).1.c, (rchoR a b).2) := by
  unfold umbelref23_Choose.f rchoR
  have ha := rdec_ev a
  have hb := rdec_ev b
  obtain ⟨⟨x, xo⟩, hx⟩ : ∃ x, x = decR a := ⟨_, rfl⟩
  obtain ⟨⟨y, yo⟩, hy⟩ : ∃ y, y = decR b := ⟨_, rfl⟩
  rw [← hx] at ha ⊢
  rw [← hy] at hb ⊢
  clear hx hy
  refine Ev.bind (a := (x.q, x.g, x.l, x.r, x.t, x.c, xo)) ha ?_
  refine Ev.bind (a := (y.q, y.g, y.l, y.r, y.t, y.c, yo)) hb ?_
  dsimp only
  cases xo
  · rw [if_neg (fun q => by cases q.1)]
    cases yo
    · rw [if_neg (fun q => by cases q)]
      exact Ev.step (f := fun _ => some ((0 : Int), (0 : Int), (0 : Int), (0 : Int), (0 : Int), (0 : Int), (-1 : Int))) (fun k => by rw [if_neg (by decide), umbelref23_Choose.j0, if_neg (by decide), if_neg (by decide)]) (Ev.now _)
    · rw [if_pos rfl]
      exact Ev.step (f := fun _ => some (y.q, y.g, y.l, y.r, y.t, y.c, (1 : Int))) (fun k => by rw [if_neg (by decide), umbelref23_Choose.j0, if_neg (by decide), if_pos rfl]) (Ev.now _)
  · cases yo
    · rw [if_pos ⟨rfl, Or.inl rfl⟩]
      exact Ev.step (f := fun _ => some (x.q, x.g, x.l, x.r, x.t, x.c, (0 : Int))) (fun k => by rw [if_pos rfl, if_neg (by decide), umbelref23_Choose.j0, if_pos rfl]) (Ev.now _)
    · by_cases h : x.q ≥ y.q
      · rw [if_pos ⟨rfl, Or.inr h⟩]
        exact Ev.step (f := fun _ => some (x.q, x.g, x.l, x.r, x.t, x.c, (0 : Int))) (fun k => by rw [if_pos rfl, if_pos rfl, umbelref23_Choose.j0, if_pos (decide_eq_true h)]) (Ev.now _)
      · rw [if_neg (fun q => q.2.elim (fun h => by cases h) h), if_pos rfl]
        exact Ev.step (f := fun _ => some (y.q, y.g, y.l, y.r, y.t, y.c, (1 : Int))) (fun k => by rw [if_pos rfl, if_pos rfl, umbelref23_Choose.j0, if_neg (by rw [decide_eq_true_iff]; exact h), if_pos rfl]) (Ev.now _)
end Go.Proofs.YtiajgmocmnjijaaDoor.SupR
