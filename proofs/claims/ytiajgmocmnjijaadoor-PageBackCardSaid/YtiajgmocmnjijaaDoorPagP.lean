/-
  What the page's functions compute, in plain lists.
-/
import Derived.Test.YtiajgmocmnjijaaDoorPPagx3
import Derived.Test.YtiajgmocmnjijaaDoorStr
import Derived.Test.YtiajgmocmnjijaaDoorDig
namespace Go.Proofs.YtiajgmocmnjijaaDoor.PagP
open Go.RowKit Go.Proofs.YtiajgmocmnjijaaDoor.PPag Go.Proofs.YtiajgmocmnjijaaDoorW.PrintWords Go.Proofs.YtiajgmocmnjijaaDoorW.PrintLast Go.Proofs.YtiajgmocmnjijaaDoorW.PrintMore Go.Proofs.YtiajgmocmnjijaaDoor.Str Go.Proofs.YtiajgmocmnjijaaDoor.Dig Go.Proofs.YtiajgmocmnjijaaDoor.PagH
set_option linter.unusedVariables false
theorem or_byte (x y : Int) (hx0 : 0 ≤ x) (hx : x % 256 = 0) (hx1 : x < 4294967296) (h0 : 0 ≤ y) (h1 : y < 256) : Go.bits .or .u32 x y = x + y :=
  bits_join .u32 32 (by decide) (fun n h0 h1 => by rw [IntKind.wrap_u32]; omega) 8 x y hx0 hx (by omega) h0 (by omega) (by omega)
theorem or_byte64 (x c : Nat) (hx : x < 4294967296) (hc : c < 256) : Go.bits .or .i64 (wrap64 ((x : Int) * 256)) (wrap64 (c : Int)) = ((x * 256 + c : Nat) : Int) := by
  rw [wr (x := (x : Int) * 256) (by omega) (by omega), wr (x := (c : Int)) (by omega) (by omega), bits_join .i64 62 (by decide) (fun n h0 h1 => by rw [IntKind.wrap_i64]; omega) 8 ((x : Int) * 256) (c : Int) (by omega) (by omega) (by omega) (by omega) (by omega) (by omega)]
  omega
/-- The sum of a text. -/
def crcI (s : ByteArray) : Int := ((Crc.crc 0 s.data.toList : Nat) : Int)
theorem crcI_range (s : ByteArray) : 0 ≤ crcI s ∧ crcI s < 4294967296 := by
  have := Crc.crc_lt 0 s.data.toList (by decide)
  unfold crcI; omega
theorem of_ok (s : ByteArray) (hs : s.size ≤ 140737488351232) : sum_Of.f s = some (crcI s) := by
  unfold sum_Of.f
  rw [show sum_Add.f 0 s = some (crcI s) by
    show SumH.add_f _ _ = _
    unfold SumH.add_f
    rw [if_pos ⟨by omega, by omega, hs⟩]; rfl]
  rfl
def be4 (s : ByteArray) : Int := ((bt s 0 * 256 + bt s 1) * 256 + bt s 2) * 256 + bt s 3
theorem get_ok (s : ByteArray) (h : 4 ≤ s.size) : Ev (fun k => sum_Get.f k s) (be4 s, true) := by
  refine Ev.of (sum_Get.mono s) (k := 5) ?_
  have h0 := bt_range s 0; have h1 := bt_range s 1; have h2 := bt_range s 2; have h3 := bt_range s 3
  have w1 : wrap64 (0 + 1) = 1 := wr (x := 0 + 1) (by omega) (by omega)
  have w2 : wrap64 (1 + 1) = 2 := wr (x := 1 + 1) (by omega) (by omega)
  have w3 : wrap64 (2 + 1) = 3 := wr (x := 2 + 1) (by omega) (by omega)
  have w4 : wrap64 (3 + 1) = 4 := wr (x := 3 + 1) (by omega) (by omega)
  unfold sum_Get.f be4
  rw [if_neg (by omega)]
  simp only [sum_Get.l0]
  rw [if_pos (by omega), if_pos (by omega), if_pos (by omega), w1, if_pos (by omega), if_pos (by omega), if_pos (by omega), w2, if_pos (by omega), if_pos (by omega), if_pos (by omega), w3, if_pos (by omega), if_pos (by omega), if_pos (by omega), w4, if_neg (by omega)]
  rw [or_byte _ (bt s 0 % 4294967296) (by omega) (by omega) (by omega) (by omega) (by omega)]
  rw [or_byte _ (bt s 1 % 4294967296) (by omega) (by omega) (by omega) (by omega) (by omega)]
  rw [or_byte _ (bt s 2 % 4294967296) (by omega) (by omega) (by omega) (by omega) (by omega)]
  rw [or_byte _ (bt s 3 % 4294967296) (by omega) (by omega) (by omega) (by omega) (by omega)]
  congr 2
  omega
def putL (v : Int) : List Int := [(v / 16777216) % 256, (v / 65536) % 256, (v / 256) % 256, v % 256]
theorem R_putL (v : Int) : R (putL v) := by
  intro x hx
  simp only [putL, List.mem_cons, List.not_mem_nil, or_false] at hx
  rcases hx with rfl | rfl | rfl | rfl <;> omega
theorem be4_rd (s : ByteArray) : be4 s = ((rd (bytesOf s) 0 * 256 + rd (bytesOf s) 1) * 256 + rd (bytesOf s) 2) * 256 + rd (bytesOf s) 3 := by
  unfold be4; rw [bt_rd, bt_rd, bt_rd, bt_rd]
theorem get_put (v : Int) (h0 : 0 ≤ v) (h1 : v < 4294967296) : be4 (strOfNums (putL v)) = v := by
  rw [be4_rd, bytes_str _ (R_putL v)]
  simp only [putL, rd]
  simp
  omega
theorem put_get (s : ByteArray) (h : s.size = 4) : strOfNums (putL (be4 s)) = s := by
  apply bytes_inj
  rw [bytes_str _ (R_putL _), be4_rd]
  have hl := len_bytesOf s
  rw [h] at hl
  have hR := R_bytesOf s
  revert hR hl
  generalize bytesOf s = l
  intro hl hR
  match l, hl, hR with
  | [a, b, c, d], hl, hR =>
    have ha := hR a (by simp); have hb := hR b (by simp); have hc := hR c (by simp); have hd := hR d (by simp)
    simp [putL, rd]
    omega
/-- A page's bytes, but for the sum. -/
def bodyL (a b at' : Int) (pl : ByteArray) : List Int := [a % 256, at' / 256 % 256, at' % 256, b / 16777216 % 256, b / 65536 % 256, b / 256 % 256, b % 256, (pl.size : Int) / 256 % 256, (pl.size : Int) % 256] ++ bytesOf pl ++ List.replicate (243 - pl.size) 0
theorem R_bodyL (a b at' : Int) (pl : ByteArray) : R (bodyL a b at' pl) := by
  refine R_app (R_app ?_ (R_bytesOf _)) (fun x hx => by rw [(List.mem_replicate.1 hx).2]; omega)
  intro x hx
  simp only [List.mem_cons, List.not_mem_nil, or_false] at hx
  rcases hx with rfl | rfl | rfl | rfl | rfl | rfl | rfl | rfl | rfl <;> omega
theorem bodyL_len (a b at' : Int) (pl : ByteArray) (h : pl.size ≤ 243) : (bodyL a b at' pl).length = 252 := by
  simp [bodyL, len_bytesOf]; omega
def fullL (a b at' : Int) (pl : ByteArray) : List Int := bodyL a b at' pl ++ putL (crcI (strOfNums (bodyL a b at' pl)))
theorem R_fullL (a b at' : Int) (pl : ByteArray) : R (fullL a b at' pl) := R_app (R_bodyL _ _ _ _) (R_putL _)
theorem fullL_len (a b at' : Int) (pl : ByteArray) (h : pl.size ≤ 243) : (fullL a b at' pl).length = 256 := by
  rw [fullL, List.length_append, bodyL_len _ _ _ _ h]; rfl
/-- May a page be? -/
def okP (a b at' : Int) (pl : ByteArray) : Prop := 1 ≤ a ∧ a ≤ 255 ∧ 0 ≤ at' ∧ at' ≤ 65535 ∧ 0 ≤ b ∧ b ≤ 2147483647 ∧ pl.size ≤ 243
instance (a b at' : Int) (pl : ByteArray) : Decidable (okP a b at' pl) := by unfold okP; infer_instance
def putR (a b at' : Int) (pl : ByteArray) : ByteArray × Bool := if okP a b at' pl then (strOfNums (fullL a b at' pl), true) else (⟨#[]⟩, false)
theorem rep_zero (n : Nat) : repB (⟨#[0]⟩ : ByteArray) n = strOfNums (List.replicate n 0) := by
  apply str_ext
  have e : (strOfNums (List.replicate n 0)).data.toList = List.replicate n 0 := by simp [strOfNums]
  rw [e, repB, show (⟨#[0]⟩ : ByteArray).data.toList = List.replicate 1 0 from rfl, Lib.repeatL_replicate, Nat.mul_one]
theorem between_eq (v l m : Int) : page_between.f v l m = some (decide (l ≤ v ∧ v ≤ m)) := by
  unfold page_between.f
  by_cases h : v ≥ l
  · rw [if_pos h]; congr 1; rw [decide_eq_decide]; omega
  · rw [if_neg h]; congr 1; symm; rw [decide_eq_false_iff_not]; omega
theorem put_ev (a b at' : Int) (pl : ByteArray) : Ev (fun k => page_Put.f k a b pl at') (putR a b at' pl) := by
  refine Ev.of (page_Put.mono a b pl at') (k := 1) ?_
  have ht : page_Put.j0 1 at' true a b pl = some ((⟨#[]⟩ : ByteArray), false) := by rw [page_Put.j0, if_pos rfl]
  unfold page_Put.f
  rw [between_eq, between_eq, between_eq, Option.bind_some, Option.bind_some, Option.bind_some]
  by_cases h1 : 1 ≤ a ∧ a ≤ 255
  · rw [if_pos (decide_eq_true h1)]
    by_cases h2 : 0 ≤ at' ∧ at' ≤ 65535
    · rw [if_pos (decide_eq_true h2)]
      by_cases h3 : 0 ≤ b ∧ b ≤ 2147483647
      · rw [if_pos (decide_eq_true h3)]
        by_cases h4 : (pl.size : Int) > 243
        · rw [decide_eq_true h4, ht, putR, if_neg (fun q => by have := q.2.2.2.2.2.2; omega)]
        · have ho : okP a b at' pl := ⟨h1.1, h1.2, h2.1, h2.2, h3.1, h3.2, by omega⟩
          have w1 : wrap64 (243 - (pl.size : Int)) = ((243 - pl.size : Nat) : Int) := by unfold wrap64; omega
          have hb : (strOfNums ([a % 256, at' / 256 % 256, at' % 256, b / 16777216 % 256, b / 65536 % 256, b / 256 % 256, b % 256, (pl.size : Int) / 256 % 256, (pl.size : Int) % 256] : List Int) ++ pl) ++ strOfNums (List.replicate (243 - pl.size) 0) = strOfNums (bodyL a b at' pl) := by
            rw [bodyL, str_app, str_app, str_bytes]
          have hl := bodyL_len a b at' pl (by omega)
          have hr : strings_Repeat.f (⟨#[0]⟩ : ByteArray) ((243 - pl.size : Nat) : Int) = some (strOfNums (List.replicate (243 - pl.size) 0)) := by
            show rep_f _ _ = _
            unfold rep_f
            rw [if_pos ⟨by omega, by omega, by rw [Int.toNat_natCast]; show 1 * _ ≤ _; omega⟩, Int.toNat_natCast, rep_zero]
          rw [decide_eq_false h4, page_Put.j0, if_neg (by decide), Option.bind_some, if_pos (by rw [str_size]; simp; omega), w1, hr, Option.bind_some, if_pos (by rw [ByteArray.size_append, str_size, str_size]; simp; omega), hb, of_ok _ (by rw [str_size, hl]; decide), Option.bind_some, show ∀ v, sum_Put.f v = some (strOfNums (putL v)) from fun _ => rfl, Option.bind_some, if_pos (by rw [str_size, str_size, hl]; simp [putL]), putR, if_pos ho, fullL, str_app]
      · rw [if_neg (by rw [decide_eq_true_iff]; exact h3), ht, putR, if_neg (fun q => h3 ⟨q.2.2.2.2.1, q.2.2.2.2.2.1⟩)]
    · rw [if_neg (by rw [decide_eq_true_iff]; exact h2), ht, putR, if_neg (fun q => h2 ⟨q.2.2.1, q.2.2.2.1⟩)]
  · rw [if_neg (by rw [decide_eq_true_iff]; exact h1), ht, putR, if_neg (fun q => h1 ⟨q.1, q.2.1⟩)]
/-- Is the sum? -/
def rightP (s : ByteArray) : Prop := s.size = 256 ∧ be4 (s.extract 252 256) = crcI (s.extract 0 252)
instance (s : ByteArray) : Decidable (rightP s) := by unfold rightP; infer_instance
theorem right_ev (s : ByteArray) : Ev (fun k => page_Right.f k s) (decide (rightP s)) := by
  unfold page_Right.f
  by_cases h : s.size = 256
  · have hz : (s.extract 252 s.size).size = 4 := by rw [ByteArray.size_extract]; omega
    refine Ev.congr (f := _) (fun k => by rw [if_pos (by omega), if_pos (by omega)]) ?_
    refine Ev.bind (get_ok _ (by omega)) ?_
    refine Ev.congr (f := fun _ => some (decide (rightP s))) (fun k => ?_) (Ev.now _)
    rw [if_pos (by decide), of_ok _ (by rw [ByteArray.size_extract]; omega), Option.bind_some, h]
    refine congrArg some ?_
    rw [Bool.eq_iff_iff, decide_eq_true_iff, beq_iff_eq]
    exact ⟨fun q => ⟨h, q⟩, fun q => q.2⟩
  · exact Ev.congr (f := fun _ => some (decide (rightP s))) (fun k => by rw [if_neg (by omega)]; congr 1; symm; rw [decide_eq_false_iff_not]; exact fun q => h q.1) (Ev.now _)
/-- The bytes' number. -/
theorem number_l0 (s : ByteArray) (hs : s.size ≤ 4) : ∀ m i : Nat, m + i = s.size → page_number.l0 (m + 1) s ((de ((bytesOf s).take i) : Nat) : Int) (s.size : Int) (i : Int) = some ((de (bytesOf s) : Nat) : Int)
  | 0, i, h => by
    rw [page_number.l0, if_neg (by omega), List.take_of_length_le (by rw [len_bytesOf]; omega)]
  | m + 1, i, h => by
    have hl : i < (bytesOf s).length := by rw [len_bytesOf]; omega
    have hR := R_bytesOf s
    have hb := bt_range s i
    have hd := de_lt ((bytesOf s).take i) (fun x hx => hR x (List.mem_of_mem_take hx))
    rw [List.length_take, Nat.min_eq_left (by omega)] at hd
    have hd2 : de ((bytesOf s).take i) < 16777216 := Nat.lt_of_lt_of_le hd (Nat.le_trans (Nat.pow_le_pow_right (by decide) (show i ≤ 3 by omega)) (by decide))
    obtain ⟨c, hc⟩ : ∃ c : Nat, bt s (i : Int) = (c : Int) := ⟨_, (Int.toNat_of_nonneg hb.1).symm⟩
    have hsn : de ((bytesOf s).take (i + 1)) = de ((bytesOf s).take i) * 256 + c := by
      rw [List.take_succ_eq_append_getElem hl, de_snoc]
      congr 1
      have h3 : bt s (i : Int) = (bytesOf s)[i] := by rw [bt_rd]; simp [rd, List.getD_eq_getElem?_getD, hl]
      rw [← h3, hc]; rfl
    rw [page_number.l0, if_pos (by omega), if_pos (by omega), if_pos (by omega), hc, or_byte64 _ _ (by omega) (by omega), ← hsn, show wrap64 ((i : Int) + 1) = ((i + 1 : Nat) : Int) from wr (by omega) (by omega)]
    exact number_l0 s hs m (i + 1) (by omega)
theorem number_ev (s : ByteArray) (hs : s.size ≤ 4) : Ev (fun k => page_number.f k s) ((de (bytesOf s) : Nat) : Int) :=
  Ev.of (page_number.mono s) (k := s.size + 1) (number_l0 s hs s.size 0 rfl)
end Go.Proofs.YtiajgmocmnjijaaDoor.PagP
