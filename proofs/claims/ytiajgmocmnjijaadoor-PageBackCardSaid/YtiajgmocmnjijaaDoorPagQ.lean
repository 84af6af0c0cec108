/-
  page.Get in plain lists.
-/
import Derived.Test.YtiajgmocmnjijaaDoorPPagx4
import Derived.Test.YtiajgmocmnjijaaDoorPagP
namespace Go.Proofs.YtiajgmocmnjijaaDoor.PagQ
open Go.RowKit Go.Proofs.YtiajgmocmnjijaaDoor.PPag Go.Proofs.YtiajgmocmnjijaaDoorW.PrintWords Go.Proofs.YtiajgmocmnjijaaDoorW.PrintLast Go.Proofs.YtiajgmocmnjijaaDoorW.PrintMore Go.Proofs.YtiajgmocmnjijaaDoor.Str Go.Proofs.YtiajgmocmnjijaaDoor.Dig Go.Proofs.YtiajgmocmnjijaaDoor.PagH Go.Proofs.YtiajgmocmnjijaaDoor.PagP
set_option linter.unusedVariables false
/-- The number of the bytes from i to j. -/
def numA (s : ByteArray) (i j : Nat) : Int := ((de (bytesOf (s.extract i j)) : Nat) : Int)
theorem numA_range (s : ByteArray) (i j n : Nat) (h : j - i ≤ n) : 0 ≤ numA s i j ∧ numA s i j < 256 ^ n := by
  have h1 := de_lt (bytesOf (s.extract i j)) (fun x hx => R_bytesOf _ x hx)
  have h2 : (bytesOf (s.extract i j)).length ≤ n := by rw [len_bytesOf, ByteArray.size_extract]; omega
  have h3 := Nat.lt_of_lt_of_le h1 (Nat.pow_le_pow_right (by decide) h2)
  have e : ((256 ^ n : Nat) : Int) = (256 : Int) ^ n := by rw [Int.natCast_pow]; rfl
  rw [numA, ← e]
  exact ⟨Int.natCast_nonneg _, Int.ofNat_lt.2 h3⟩
/-- How long a payload bytes tell, at most 243. -/
def lenA (s : ByteArray) : Nat := min (de (bytesOf (s.extract 7 9))) 243
def readR (s : ByteArray) : Int × Int × ByteArray × Int := (numA s 0 1, numA s 3 7, s.extract 9 (9 + lenA s), numA s 1 3)
theorem read_ev (s : ByteArray) (h : s.size = 256) : Ev (fun k => page_read.f k s) (readR s) := by
  unfold page_read.f
  have z : ∀ i j : Nat, j - i ≤ 4 → (s.extract i j).size ≤ 4 := fun i j q => by rw [ByteArray.size_extract]; omega
  have hm : mn (numA s 7 9) 243 = (lenA s : Int) := by unfold mn numA lenA; split <;> omega
  have hl : lenA s ≤ 243 := by unfold lenA; omega
  have w1 : wrap64 (9 + (lenA s : Int)) = ((9 + lenA s : Nat) : Int) := by unfold wrap64; omega
  refine Ev.congr (f := _) (fun k => by rw [if_pos (by decide), if_pos (by omega)]) ?_
  refine Ev.bind (a := numA s 7 9) (number_ev _ (z 7 9 (by decide))) ?_
  refine Ev.congr (f := _) (fun k => by rw [if_pos (by decide), if_pos (by omega)]) ?_
  refine Ev.bind (a := numA s 0 1) (number_ev _ (z 0 1 (by decide))) ?_
  refine Ev.congr (f := _) (fun k => by rw [if_pos (by decide), if_pos (by omega)]) ?_
  refine Ev.bind (a := numA s 3 7) (number_ev _ (z 3 7 (by decide))) ?_
  rw [hm, w1]
  refine Ev.congr (f := _) (fun k => by rw [if_pos (by omega), if_pos (by omega), if_pos (by decide), if_pos (by omega)]) ?_
  refine Ev.bind (a := numA s 1 3) (number_ev _ (z 1 3 (by decide))) ?_
  exact Ev.now _
/-- These bytes are a page's at this number. -/
def isPage (s : ByteArray) (at' a b : Int) (pl : ByteArray) : Prop := okP a b at' pl ∧ s = strOfNums (fullL a b at' pl)
theorem page_size {s : ByteArray} {at' a b : Int} {pl : ByteArray} (h : isPage s at' a b pl) : s.size = 256 := by
  rw [h.2, str_size, fullL_len _ _ _ _ h.1.2.2.2.2.2.2]
theorem page_bytes {s : ByteArray} {at' a b : Int} {pl : ByteArray} (h : isPage s at' a b pl) : bytesOf s = fullL a b at' pl := by
  rw [h.2, bytes_str _ (R_fullL _ _ _ _)]
theorem page_right {s : ByteArray} {at' a b : Int} {pl : ByteArray} (h : isPage s at' a b pl) : rightP s := by
  have hl := bodyL_len a b at' pl h.1.2.2.2.2.2.2
  have h1 : s.extract 252 256 = strOfNums (putL (crcI (strOfNums (bodyL a b at' pl)))) := by
    apply bytes_inj
    rw [bytes_extract, page_bytes h, bytes_str _ (R_putL _), List.take_of_length_le (by rw [fullL_len _ _ _ _ h.1.2.2.2.2.2.2]; exact Nat.le_refl _), fullL, ← hl, List.drop_left]
  have h2 : s.extract 0 252 = strOfNums (bodyL a b at' pl) := by
    apply bytes_inj
    rw [bytes_extract, page_bytes h, bytes_str _ (R_bodyL _ _ _ _), fullL, ← hl, List.take_left, List.drop_zero]
  have hr := crcI_range (strOfNums (bodyL a b at' pl))
  exact ⟨page_size h, by rw [h1, h2, get_put _ hr.1 hr.2]⟩
theorem fullL_eq (a b at' : Int) (pl : ByteArray) : ∃ r, fullL a b at' pl = a % 256 :: at' / 256 % 256 :: at' % 256 :: b / 16777216 % 256 :: b / 65536 % 256 :: b / 256 % 256 :: b % 256 :: (pl.size : Int) / 256 % 256 :: (pl.size : Int) % 256 :: (bytesOf pl ++ r) := by
  refine ⟨List.replicate (243 - pl.size) 0 ++ putL (crcI (strOfNums (bodyL a b at' pl))), ?_⟩
  rw [fullL]
  simp [bodyL]
theorem de1 (a : Int) : de [a] = a.toNat := by simp [de]
theorem de2 (a b : Int) : de [a, b] = a.toNat * 256 + b.toNat := by simp [de]
theorem de4 (a b c d : Int) : de [a, b, c, d] = ((a.toNat * 256 + b.toNat) * 256 + c.toNat) * 256 + d.toNat := by simp [de]
theorem page_read {s : ByteArray} {at' a b : Int} {pl : ByteArray} (h : isPage s at' a b pl) : readR s = (a, b, pl, at') := by
  obtain ⟨r, hr⟩ := fullL_eq a b at' pl
  have hb := (page_bytes h).trans hr
  obtain ⟨⟨a1, a2, t1, t2, b1, b2, hp⟩, _⟩ := h
  have e79 : de (bytesOf (s.extract 7 9)) = pl.size := by
    rw [bytes_extract, hb]
    show de [(pl.size : Int) / 256 % 256, (pl.size : Int) % 256] = _
    rw [de2]; omega
  have hl : lenA s = pl.size := by rw [lenA, e79]; omega
  have e01 : numA s 0 1 = a := by
    rw [numA, bytes_extract, hb]
    show ((de [a % 256] : Nat) : Int) = _
    rw [de1]; omega
  have e13 : numA s 1 3 = at' := by
    rw [numA, bytes_extract, hb]
    show ((de [at' / 256 % 256, at' % 256] : Nat) : Int) = _
    rw [de2]; omega
  have e37 : numA s 3 7 = b := by
    rw [numA, bytes_extract, hb]
    show ((de [b / 16777216 % 256, b / 65536 % 256, b / 256 % 256, b % 256] : Nat) : Int) = _
    rw [de4]; omega
  have ep : s.extract 9 (9 + pl.size) = pl := by
    apply bytes_inj
    rw [bytes_extract, hb, List.drop_take, Nat.add_sub_cancel_left]
    show (bytesOf pl ++ r).take pl.size = _
    rw [← len_bytesOf, List.take_left]
  rw [readR, e01, e13, e37, hl, ep]
instance (s : ByteArray) (at' a b : Int) (pl : ByteArray) : Decidable (isPage s at' a b pl) := by unfold isPage; infer_instance
/-- What Get hands back. -/
def getR (s : ByteArray) (at' : Int) : Int × Int × ByteArray × Int := if rightP s ∧ isPage s at' (readR s).1 (readR s).2.1 (readR s).2.2.1 then ((readR s).1, (readR s).2.1, (readR s).2.2.1, 0) else (0, 0, (⟨#[]⟩ : ByteArray), 6)
theorem get_pos {s : ByteArray} {at' a b : Int} {pl : ByteArray} (h : isPage s at' a b pl) : getR s at' = (a, b, pl, 0) := by
  rw [getR, page_read h, if_pos ⟨page_right h, h⟩]
theorem get_neg {s : ByteArray} {at' : Int} (h : ∀ a b pl, ¬ isPage s at' a b pl) : getR s at' = (0, 0, (⟨#[]⟩ : ByteArray), 6) := by
  rw [getR, if_neg (fun q => h _ _ _ q.2)]
theorem get_ev (s : ByteArray) (at' : Int) : Ev (fun k => page_Get.f k s at') (getR s at') := by
  unfold page_Get.f
  refine Ev.bind (right_ev s) ?_
  by_cases hr : rightP s
  · refine Ev.congr (f := _) (fun k => by rw [if_pos (decide_eq_true hr)]) ?_
    refine Ev.bind (read_ev s hr.1) ?_
    refine Ev.bind (put_ev _ _ _ _) ?_
    by_cases ha : (readR s).2.2.2 = at'
    · refine Ev.congr (f := _) (fun k => by rw [if_neg (by simp [ha])]) ?_
      by_cases hp : isPage s at' (readR s).1 (readR s).2.1 (readR s).2.2.1
      · have he : putR (readR s).1 (readR s).2.1 at' (readR s).2.2.1 = (s, true) := by rw [putR, if_pos hp.1, ← hp.2]
        have hg : getR s at' = ((readR s).1, (readR s).2.1, (readR s).2.2.1, 0) := by rw [getR, if_pos ⟨hr, hp⟩]
        rw [he, hg]
        exact Ev.congr (fun k => by rw [if_pos rfl, if_pos rfl]) (Ev.now _)
      · have hg : getR s at' = (0, 0, (⟨#[]⟩ : ByteArray), 6) := by rw [getR, if_neg (fun q => hp q.2)]
        rw [hg]
        by_cases ho : okP (readR s).1 (readR s).2.1 at' (readR s).2.2.1
        · have he : putR (readR s).1 (readR s).2.1 at' (readR s).2.2.1 = (strOfNums (fullL (readR s).1 (readR s).2.1 at' (readR s).2.2.1), true) := by rw [putR, if_pos ho]
          rw [he]
          exact Ev.congr (fun k => by rw [if_pos rfl, if_neg (fun q => hp ⟨ho, ((toList_inj _ _).1 q).symm⟩)]) (Ev.now _)
        · have he : putR (readR s).1 (readR s).2.1 at' (readR s).2.2.1 = (⟨#[]⟩, false) := by rw [putR, if_neg ho]
          rw [he]
          exact Ev.congr (fun k => by rw [if_neg (by decide)]) (Ev.now _)
    · have hg : getR s at' = (0, 0, (⟨#[]⟩ : ByteArray), 6) := by rw [getR, if_neg (fun q => ha (by have := page_read q.2; rw [this]))]
      rw [hg]
      exact Ev.congr (fun k => by rw [if_pos (by simp [ha])]) (Ev.now _)
  · have hg : getR s at' = (0, 0, (⟨#[]⟩ : ByteArray), 6) := by rw [getR, if_neg (fun q => hr q.1)]
    rw [hg]
    exact Ev.congr (fun k => by rw [if_neg (by rw [decide_eq_true_iff]; exact hr)]) (Ev.now _)
end Go.Proofs.YtiajgmocmnjijaaDoor.PagQ
