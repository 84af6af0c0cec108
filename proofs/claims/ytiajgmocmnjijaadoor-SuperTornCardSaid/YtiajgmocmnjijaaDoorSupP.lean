/-
  What the superblock's functions compute, in plain lists.
-/
import Derived.Test.YtiajgmocmnjijaaDoorPSupx4
import Derived.Test.YtiajgmocmnjijaaDoorStr
import Derived.Test.YtiajgmocmnjijaaDoorDig
namespace Go.Proofs.YtiajgmocmnjijaaDoor.SupP
open Go.RowKit Go.Proofs.YtiajgmocmnjijaaDoor.PSup Go.Proofs.YtiajgmocmnjijaaDoorW.PrintWords Go.Proofs.YtiajgmocmnjijaaDoorW.PrintLast Go.Proofs.YtiajgmocmnjijaaDoorW.PrintMore Go.Proofs.YtiajgmocmnjijaaDoor.Str Go.Proofs.YtiajgmocmnjijaaDoor.Dig Go.Proofs.YtiajgmocmnjijaaDoor.PagH
set_option linter.unusedVariables false
theorem or_byte64 (x c : Nat) (hx : x < 4294967296) (hc : c < 256) : Go.bits .or .i64 (wrap64 ((x : Int) * 256)) (wrap64 (c : Int)) = ((x * 256 + c : Nat) : Int) := by
  rw [wr (x := (x : Int) * 256) (by omega) (by omega), wr (x := (c : Int)) (by omega) (by omega), bits_join .i64 62 (by decide) (fun n h0 h1 => by rw [IntKind.wrap_i64]; omega) 8 ((x : Int) * 256) (c : Int) (by omega) (by omega) (by omega) (by omega) (by omega) (by omega)]
  omega
def crcI (s : ByteArray) : Int := ((Crc.crc 0 s.data.toList : Nat) : Int)
theorem of_ok (s : ByteArray) (hs : s.size ≤ 140737488351232) : sum_Of.f s = some (crcI s) := by
  unfold sum_Of.f
  rw [show sum_Add.f 0 s = some (crcI s) by
    show SumH.add_f _ _ = _
    unfold SumH.add_f
    rw [if_pos ⟨by omega, by omega, hs⟩]; rfl]
  rfl
def putL (v : Int) : List Int := [(v / 16777216) % 256, (v / 65536) % 256, (v / 256) % 256, v % 256]
theorem R_putL (v : Int) : R (putL v) := by
  intro x hx
  simp only [putL, List.mem_cons, List.not_mem_nil, or_false] at hx
  rcases hx with rfl | rfl | rfl | rfl <;> omega
theorem rep_zero (n : Nat) : repB (⟨#[0]⟩ : ByteArray) n = strOfNums (List.replicate n 0) := by
  apply str_ext
  have e : (strOfNums (List.replicate n 0)).data.toList = List.replicate n 0 := by simp [strOfNums]
  rw [e, repB, show (⟨#[0]⟩ : ByteArray).data.toList = List.replicate 1 0 from rfl, Lib.repeatL_replicate, Nat.mul_one]
def numA (s : ByteArray) (i j : Nat) : Int := ((de (bytesOf (s.extract i j)) : Nat) : Int)
theorem de1 (a : Int) : de [a] = a.toNat := by simp [de]
theorem de2 (a b : Int) : de [a, b] = a.toNat * 256 + b.toNat := by simp [de]
theorem de4 (a b c d : Int) : de [a, b, c, d] = ((a.toNat * 256 + b.toNat) * 256 + c.toNat) * 256 + d.toNat := by simp [de]
theorem shr64 (v : Int) (s : Nat) (hs : s < 64) : shr .i64 v (s : Int) = v / 2 ^ s := by
  unfold shr
  rw [Int.toNat_natCast, show IntKind.i64.bits = 64 from rfl, Nat.min_eq_left (by omega)]
theorem number_l0 (s : ByteArray) (hs : s.size ≤ 4) : ∀ m i : Nat, m + i = s.size → super_number.l0 (m + 1) s ((de ((bytesOf s).take i) : Nat) : Int) (s.size : Int) (i : Int) = some ((de (bytesOf s) : Nat) : Int)
  | 0, i, h => by
    rw [super_number.l0, if_neg (by omega), List.take_of_length_le (by rw [len_bytesOf]; omega)]
  | m + 1, i, h => by
    have hl : i < (bytesOf s).length := by rw [len_bytesOf]; omega
    have hR := R_bytesOf s
    have hb := bt_range s i
    have hd := de_lt ((bytesOf s).take i) (fun x hx => hR x (List.mem_of_mem_take hx))
    rw [List.length_take, Nat.min_eq_left (by omega)] at hd
    have hd2 : de ((bytesOf s).take i) < 16777216 := Nat.lt_of_lt_of_le hd (Nat.le_trans (Nat.pow_le_pow_right (by decide) (show i ≤ 3 by omega)) (by decide))
    obtain ⟨c, hc⟩ : ∃ c : Nat, bt s (i : Int) = (c : Int) := ⟨_, (Int.toNat_of_nonneg hb.1).symm⟩
    have hsn : de ((bytesOf s).take (i + 1)) = de ((bytesOf s).take i) * 256 + c := by
      rw [List.take_succ_eq_append_getElem hl, de_snoc]
      congr 1
      have h3 : bt s (i : Int) = (bytesOf s)[i] := by rw [bt_rd]; simp [rd, List.getD_eq_getElem?_getD, hl]
      rw [← h3, hc]; rfl
    rw [super_number.l0, if_pos (by omega), if_pos (by omega), if_pos (by omega), hc, or_byte64 _ _ (by omega) (by omega), ← hsn, show wrap64 ((i : Int) + 1) = ((i + 1 : Nat) : Int) from wr (by omega) (by omega)]
    exact number_l0 s hs m (i + 1) (by omega)
theorem number_ev (s : ByteArray) (hs : s.size ≤ 4) : Ev (fun k => super_number.f k s) ((de (bytesOf s) : Nat) : Int) :=
  Ev.of (super_number.mono s) (k := s.size + 1) (number_l0 s hs s.size 0 rfl)
/-- A superblock. -/
structure Sb where
  q : Int
  g : Int
  l : Int
  r : Int
  t : Int
  c : Int
deriving DecidableEq
def Sb.zero : Sb := ⟨0, 0, 0, 0, 0, 0⟩
def tup (s : Sb) (b : Bool) : Int × Int × Int × Int × Int × Int × Bool := (s.q, s.g, s.l, s.r, s.t, s.c, b)
/-- May it be? -/
def goodP (s : Sb) : Prop := (1 ≤ s.q ∧ s.q ≤ 2147483647) ∧ (1 ≤ s.g ∧ s.g ≤ 2147483647) ∧ (3 ≤ s.l ∧ s.l ≤ 200) ∧ (2 ≤ s.r ∧ s.r ≤ s.l - 1) ∧ (s.t = 0 ∨ 2 ≤ s.t ∧ s.t ≤ s.l - 1) ∧ s.t ≠ s.r ∧ (1 ≤ s.c ∧ s.c ≤ 6)
instance (s : Sb) : Decidable (goodP s) := by unfold goodP; infer_instance
theorem between_eq (v l m : Int) : super_between.f v l m = some (decide (l ≤ v ∧ v ≤ m)) := by
  unfold super_between.f
  by_cases h : v ≥ l
  · rw [if_pos h]; congr 1; rw [decide_eq_decide]; omega
  · rw [if_neg h]; congr 1; symm; rw [decide_eq_false_iff_not]; omega
theorem some_f {p : Prop} [Decidable p] (h : ¬ p) : some false = some (decide p) := by rw [decide_eq_false h]
theorem good_eq (s : Sb) : super_Good.f s.q s.g s.l s.r s.t s.c = some (decide (goodP s)) := by
  unfold super_Good.f
  simp only [between_eq, Option.bind_some, decide_eq_true_eq]
  by_cases h1 : 1 ≤ s.q ∧ s.q ≤ 2147483647
  · rw [if_pos h1]
    by_cases h2 : 1 ≤ s.g ∧ s.g ≤ 2147483647
    · rw [if_pos h2]
      by_cases h3 : 3 ≤ s.l ∧ s.l ≤ 200
      · have w : wrap64 (s.l - 1) = s.l - 1 := wr (by omega) (by omega)
        rw [if_pos h3, w]
        by_cases h4 : 2 ≤ s.r ∧ s.r ≤ s.l - 1
        · rw [if_pos h4]
          by_cases h5 : s.t = 0
          · rw [if_pos h5]
            by_cases h6 : s.t = s.r
            · rw [if_pos h6]; exact some_f (fun q => q.2.2.2.2.2.1 h6)
            · rw [if_neg h6]; congr 1; rw [decide_eq_decide]; exact ⟨fun q => ⟨h1, h2, h3, h4, Or.inl h5, h6, q⟩, fun q => q.2.2.2.2.2.2⟩
          · rw [if_neg h5]
            by_cases h7 : 2 ≤ s.t ∧ s.t ≤ s.l - 1
            · rw [if_pos h7]
              by_cases h6 : s.t = s.r
              · rw [if_pos h6]; exact some_f (fun q => q.2.2.2.2.2.1 h6)
              · rw [if_neg h6]; congr 1; rw [decide_eq_decide]; exact ⟨fun q => ⟨h1, h2, h3, h4, Or.inr h7, h6, q⟩, fun q => q.2.2.2.2.2.2⟩
            · rw [if_neg h7]; exact some_f (fun q => q.2.2.2.2.1.elim h5 h7)
        · rw [if_neg h4]; exact some_f (fun q => h4 q.2.2.2.1)
      · rw [if_neg h3]; exact some_f (fun q => h3 q.2.2.1)
    · rw [if_neg h2]; exact some_f (fun q => h2 q.2.1)
  · rw [if_neg h1]; exact some_f (fun q => h1 q.1)
def b4 (v : Int) : List Int := [v / 16777216 % 256, v / 65536 % 256, v / 256 % 256, v % 256]
def b2 (v : Int) : List Int := [v / 256 % 256, v % 256]
def b1 (v : Int) : List Int := [v % 256]
theorem put_step (v : Int) (n i m : Nat) (x : List Int) (hn : n ≤ 4) (hi : i < n) (hx : x.length = n) : super_put.l0 (m + 1) v (n : Int) x (n : Int) (i : Int) = super_put.l0 m v (n : Int) (x.set i (v / 2 ^ (8 * (n - 1 - i)) % 256)) (n : Int) ((i + 1 : Nat) : Int) := by
  have w0 : wrap64 ((n : Int) - 1) = ((n - 1 : Nat) : Int) := by rw [show (n : Int) - 1 = ((n - 1 : Nat) : Int) by omega]; exact wr (by omega) (by omega)
  have w1 : wrap64 (((n - 1 : Nat) : Int) - (i : Int)) = ((n - 1 - i : Nat) : Int) := by rw [show ((n - 1 : Nat) : Int) - (i : Int) = ((n - 1 - i : Nat) : Int) by omega]; exact wr (by omega) (by omega)
  have w2 : wrap64 (8 * ((n - 1 - i : Nat) : Int)) = ((8 * (n - 1 - i) : Nat) : Int) := by rw [show (8 : Int) * ((n - 1 - i : Nat) : Int) = ((8 * (n - 1 - i) : Nat) : Int) by omega]; exact wr (by omega) (by omega)
  have w3 : wrap64 ((i : Int) + 1) = ((i + 1 : Nat) : Int) := wr (by omega) (by omega)
  rw [super_put.l0, if_pos (by omega), w0, w1, w2, if_pos (by omega), if_pos (by omega), if_pos (by rw [hx]; omega), shr64 v _ (by omega), Int.toNat_natCast, w3]
theorem put4 (v : Int) : Ev (fun k => super_put.f k v 4) (strOfNums (b4 v)) := by
  refine Ev.of (super_put.mono v 4) (k := 5) ?_
  unfold super_put.f
  rw [if_pos (by decide), if_pos (by decide), Option.bind_some]
  show super_put.l0 5 v ((4 : Nat) : Int) [0, 0, 0, 0] ((4 : Nat) : Int) ((0 : Nat) : Int) = _
  rw [put_step v 4 0 4 _ (by decide) (by decide) rfl, put_step v 4 1 3 _ (by decide) (by decide) rfl, put_step v 4 2 2 _ (by decide) (by decide) rfl, put_step v 4 3 1 _ (by decide) (by decide) rfl, super_put.l0, if_neg (by decide)]
  show some (strOfNums [v / 16777216 % 256, v / 65536 % 256, v / 256 % 256, v / 1 % 256]) = _
  rw [Int.ediv_one]; rfl
theorem put2 (v : Int) : Ev (fun k => super_put.f k v 2) (strOfNums (b2 v)) := by
  refine Ev.of (super_put.mono v 2) (k := 3) ?_
  unfold super_put.f
  rw [if_pos (by decide), if_pos (by decide), Option.bind_some]
  show super_put.l0 3 v ((2 : Nat) : Int) [0, 0] ((2 : Nat) : Int) ((0 : Nat) : Int) = _
  rw [put_step v 2 0 2 _ (by decide) (by decide) rfl, put_step v 2 1 1 _ (by decide) (by decide) rfl, super_put.l0, if_neg (by decide)]
  show some (strOfNums [v / 256 % 256, v / 1 % 256]) = _
  rw [Int.ediv_one]; rfl
theorem put1 (v : Int) : Ev (fun k => super_put.f k v 1) (strOfNums (b1 v)) := by
  refine Ev.of (super_put.mono v 1) (k := 2) ?_
  unfold super_put.f
  rw [if_pos (by decide), if_pos (by decide), Option.bind_some]
  show super_put.l0 2 v ((1 : Nat) : Int) [0] ((1 : Nat) : Int) ((0 : Nat) : Int) = _
  rw [put_step v 1 0 1 _ (by decide) (by decide) rfl, super_put.l0, if_neg (by decide)]
  show some (strOfNums [v / 1 % 256]) = _
  rw [Int.ediv_one]; rfl
/-- A first sector, but for its sum. -/
def headS (s : Sb) : List Int := [85, 77, 66, 49] ++ b4 s.q ++ b4 s.g ++ b2 s.l ++ b2 s.r ++ b2 s.t ++ b1 s.c
def bodyS (s : Sb) : List Int := headS s ++ List.replicate 41 0
theorem R_b4 (v : Int) : R (b4 v) := by
  intro x hx
  simp only [b4, List.mem_cons, List.not_mem_nil, or_false] at hx
  rcases hx with rfl | rfl | rfl | rfl <;> omega
theorem R_b2 (v : Int) : R (b2 v) := by
  intro x hx
  simp only [b2, List.mem_cons, List.not_mem_nil, or_false] at hx
  rcases hx with rfl | rfl <;> omega
theorem R_b1 (v : Int) : R (b1 v) := by
  intro x hx
  simp only [b1, List.mem_cons, List.not_mem_nil, or_false] at hx
  subst hx; omega
theorem R_zero (n : Nat) : R (List.replicate n 0) := fun x hx => by rw [(List.mem_replicate.1 hx).2]; omega
theorem R_mark : R ([85, 77, 66, 49] : List Int) := by
  intro x hx
  simp only [List.mem_cons, List.not_mem_nil, or_false] at hx
  rcases hx with rfl | rfl | rfl | rfl <;> omega
theorem R_headS (s : Sb) : R (headS s) := R_app (R_app (R_app (R_app (R_app (R_app R_mark (R_b4 _)) (R_b4 _)) (R_b2 _)) (R_b2 _)) (R_b2 _)) (R_b1 _)
theorem bodyS_def (s : Sb) : bodyS s = headS s ++ List.replicate 41 0 := rfl
theorem R_bodyS (s : Sb) : R (bodyS s) := R_app (R_headS s) (R_zero _)
theorem bodyS_len (s : Sb) : (bodyS s).length = 60 := by simp [bodyS, headS, b4, b2, b1]
def sectL (s : Sb) : List Int := bodyS s ++ putL (crcI (strOfNums (bodyS s)))
theorem R_sectL (s : Sb) : R (sectL s) := R_app (R_bodyS s) (R_putL _)
theorem sectL_len (s : Sb) : (sectL s).length = 64 := by rw [sectL, List.length_append, bodyS_len]; rfl
def encL (s : Sb) : List Int := sectL s ++ List.replicate 192 0
theorem R_encL (s : Sb) : R (encL s) := R_app (R_sectL s) (R_zero _)
theorem encL_len (s : Sb) : (encL s).length = 256 := by rw [encL, List.length_append, sectL_len, List.length_replicate]
theorem repeat_ok (n : Nat) (h : n ≤ 1000) : strings_Repeat.f (⟨#[0]⟩ : ByteArray) (n : Int) = some (strOfNums (List.replicate n 0)) := by
  show rep_f _ _ = _
  unfold rep_f
  rw [if_pos ⟨by omega, by omega, by rw [Int.toNat_natCast]; show 1 * _ ≤ _; omega⟩, Int.toNat_natCast, rep_zero]
theorem sector_ev (s : Sb) : Ev (fun k => super_sector.f k s.q s.g s.l s.r s.t s.c) (strOfNums (sectL s)) := by
  have hm : (⟨#[85, 77, 66, 49]⟩ : ByteArray) = strOfNums [85, 77, 66, 49] := rfl
  unfold super_sector.f
  rw [hm]
  refine Ev.bind (put4 s.q) ?_
  refine Ev.congr (f := _) (fun k => by rw [if_pos (by simp [str_size, b4])]) ?_
  refine Ev.bind (put4 s.g) ?_
  refine Ev.congr (f := _) (fun k => by rw [if_pos (by simp [ByteArray.size_append, str_size, b4])]) ?_
  refine Ev.bind (put2 s.l) ?_
  refine Ev.congr (f := _) (fun k => by rw [if_pos (by simp [ByteArray.size_append, str_size, b4, b2])]) ?_
  refine Ev.bind (put2 s.r) ?_
  refine Ev.congr (f := _) (fun k => by rw [if_pos (by simp [ByteArray.size_append, str_size, b4, b2])]) ?_
  refine Ev.bind (put2 s.t) ?_
  refine Ev.congr (f := _) (fun k => by rw [if_pos (by simp [ByteArray.size_append, str_size, b4, b2])]) ?_
  refine Ev.bind (put1 s.c) ?_
  refine Ev.congr (f := fun _ => some (strOfNums (sectL s))) (fun k => ?_) (Ev.now _)
  rw [if_pos (by simp [ByteArray.size_append, str_size, b4, b2, b1]), show (41 : Int) = ((41 : Nat) : Int) from rfl, repeat_ok 41 (by decide), Option.bind_some]
  simp only [← str_app]
  rw [show ([85, 77, 66, 49] : List Int) ++ b4 s.q ++ b4 s.g ++ b2 s.l ++ b2 s.r ++ b2 s.t ++ b1 s.c = headS s from rfl, ← bodyS_def s, if_pos (by rw [str_size, str_size]; simp [headS, b4, b2, b1]), of_ok _ (by rw [str_size, bodyS_len]; decide), Option.bind_some, show ∀ v, sum_Put.f v = some (strOfNums (putL v)) from fun _ => rfl, Option.bind_some, if_pos (by rw [str_size, str_size, bodyS_len]; simp [putL]), ← str_app]; rfl
def encR (s : Sb) : ByteArray × Bool := if goodP s then (strOfNums (encL s), true) else (⟨#[]⟩, false)
theorem enc_ev (s : Sb) : Ev (fun k => super_Encode.f k s.q s.g s.l s.r s.t s.c) (encR s) := by
  unfold super_Encode.f
  rw [good_eq]
  by_cases h : goodP s
  · refine Ev.congr (f := _) (fun k => by rw [Option.bind_some, if_pos (decide_eq_true h)]) ?_
    refine Ev.bind (sector_ev s) ?_
    refine Ev.congr (f := fun _ => some (strOfNums (encL s), true)) (fun k => ?_) (by rw [encR, if_pos h]; exact Ev.now _)
    rw [show (192 : Int) = ((192 : Nat) : Int) from rfl, repeat_ok 192 (by decide), Option.bind_some, if_pos (by rw [str_size, str_size, sectL_len, List.length_replicate]; omega), ← str_app]; rfl
  · refine Ev.congr (f := fun _ => some ((⟨#[]⟩ : ByteArray), false)) (fun k => ?_) (by rw [encR, if_neg h]; exact Ev.now _)
    rw [Option.bind_some, if_neg (by rw [decide_eq_true_iff]; exact h)]
def readS (b : ByteArray) : Sb := ⟨numA b 4 8, numA b 8 12, numA b 12 14, numA b 14 16, numA b 16 18, numA b 18 19⟩
/-- These bytes begin with this superblock's sector. -/
def isSup (b : ByteArray) (s : Sb) : Prop := b.size = 256 ∧ goodP s ∧ b.extract 0 64 = strOfNums (sectL s)
instance (b : ByteArray) (s : Sb) : Decidable (isSup b s) := by unfold isSup; infer_instance
theorem sectL_eq (s : Sb) : ∃ r, sectL s = 85 :: 77 :: 66 :: 49 :: (b4 s.q ++ (b4 s.g ++ (b2 s.l ++ (b2 s.r ++ (b2 s.t ++ (b1 s.c ++ r)))))) := ⟨List.replicate 41 0 ++ putL (crcI (strOfNums (bodyS s))), by simp [sectL, bodyS, headS]⟩
theorem first_bytes {b : ByteArray} {s : Sb} (h : isSup b s) : (bytesOf b).take 64 = sectL s := by
  have := congrArg bytesOf h.2.2
  rw [bytes_extract, bytes_str _ (R_sectL s)] at this
  simpa using this
theorem num_first {b : ByteArray} {s : Sb} (h : isSup b s) (i j : Nat) (hj : j ≤ 64) : numA b i j = ((de (((sectL s).take j).drop i) : Nat) : Int) := by
  rw [numA, bytes_extract, ← first_bytes h, List.take_take, Nat.min_eq_left hj]
theorem sup_read {b : ByteArray} {s : Sb} (h : isSup b s) : readS b = s := by
  obtain ⟨r, hr⟩ := sectL_eq s
  obtain ⟨⟨q1, q2⟩, ⟨g1, g2⟩, ⟨l1, l2⟩, ⟨r1, r2⟩, ht, _, c1, c2⟩ := h.2.1
  have t1 : 0 ≤ s.t ∧ s.t ≤ 200 := by rcases ht with h | h <;> omega
  have e1 : numA b 4 8 = s.q := by
    rw [num_first h 4 8 (by decide), hr]
    show ((de [s.q / 16777216 % 256, s.q / 65536 % 256, s.q / 256 % 256, s.q % 256] : Nat) : Int) = _
    rw [de4]; omega
  have e2 : numA b 8 12 = s.g := by
    rw [num_first h 8 12 (by decide), hr]
    show ((de [s.g / 16777216 % 256, s.g / 65536 % 256, s.g / 256 % 256, s.g % 256] : Nat) : Int) = _
    rw [de4]; omega
  have e3 : numA b 12 14 = s.l := by
    rw [num_first h 12 14 (by decide), hr]
    show ((de [s.l / 256 % 256, s.l % 256] : Nat) : Int) = _
    rw [de2]; omega
  have e4 : numA b 14 16 = s.r := by
    rw [num_first h 14 16 (by decide), hr]
    show ((de [s.r / 256 % 256, s.r % 256] : Nat) : Int) = _
    rw [de2]; omega
  have e5 : numA b 16 18 = s.t := by
    rw [num_first h 16 18 (by decide), hr]
    show ((de [s.t / 256 % 256, s.t % 256] : Nat) : Int) = _
    rw [de2]; omega
  have e6 : numA b 18 19 = s.c := by
    rw [num_first h 18 19 (by decide), hr]
    show ((de [s.c % 256] : Nat) : Int) = _
    rw [de1]; omega
  rw [readS, e1, e2, e3, e4, e5, e6]
def decR (b : ByteArray) : Sb × Bool := if isSup b (readS b) then (readS b, true) else (Sb.zero, false)
theorem dec_pos {b : ByteArray} {s : Sb} (h : isSup b s) : decR b = (s, true) := by rw [decR, sup_read h, if_pos h]
theorem dec_neg {b : ByteArray} (h : ∀ s, ¬ isSup b s) : decR b = (Sb.zero, false) := by rw [decR, if_neg (h _)]
theorem dec_ev (b : ByteArray) : Ev (fun k => super_Decode.f k b) (tup (decR b).1 (decR b).2) := by
  unfold super_Decode.f
  by_cases hs : b.size = 256
  · have z : ∀ i j : Nat, j - i ≤ 4 → (b.extract i j).size ≤ 4 := fun i j q => by rw [ByteArray.size_extract]; omega
    refine Ev.congr (f := _) (fun k => by rw [if_pos (by omega), if_pos (by decide), if_pos (by omega)]) ?_
    refine Ev.bind (a := numA b 4 8) (number_ev _ (z 4 8 (by decide))) ?_
    refine Ev.congr (f := _) (fun k => by rw [if_pos (by decide), if_pos (by omega)]) ?_
    refine Ev.bind (a := numA b 8 12) (number_ev _ (z 8 12 (by decide))) ?_
    refine Ev.congr (f := _) (fun k => by rw [if_pos (by decide), if_pos (by omega)]) ?_
    refine Ev.bind (a := numA b 12 14) (number_ev _ (z 12 14 (by decide))) ?_
    refine Ev.congr (f := _) (fun k => by rw [if_pos (by decide), if_pos (by omega)]) ?_
    refine Ev.bind (a := numA b 14 16) (number_ev _ (z 14 16 (by decide))) ?_
    refine Ev.congr (f := _) (fun k => by rw [if_pos (by decide), if_pos (by omega)]) ?_
    refine Ev.bind (a := numA b 16 18) (number_ev _ (z 16 18 (by decide))) ?_
    refine Ev.congr (f := _) (fun k => by rw [if_pos (by decide), if_pos (by omega)]) ?_
    refine Ev.bind (a := numA b 18 19) (number_ev _ (z 18 19 (by decide))) ?_
    have hg := good_eq (readS b)
    have hse := sector_ev (readS b)
    refine Ev.congr (f := _) (fun k => by rw [show super_Good.f (numA b 4 8) (numA b 8 12) (numA b 12 14) (numA b 14 16) (numA b 16 18) (numA b 18 19) = _ from hg, Option.bind_some]) ?_
    by_cases hgd : goodP (readS b)
    · refine Ev.congr (f := _) (fun k => by rw [if_pos (decide_eq_true hgd)]) ?_
      refine Ev.bind hse ?_
      by_cases he : b.extract 0 64 = strOfNums (sectL (readS b))
      · have hd : isSup b (readS b) := ⟨hs, hgd, he⟩
        rw [decR, if_pos hd]
        exact Ev.congr (f := fun _ => some (tup (readS b) true)) (fun k => by rw [if_pos (by decide), if_pos (by omega), if_pos (by rw [he])]; rfl) (Ev.now _)
      · have hd : ¬ isSup b (readS b) := fun q => he q.2.2
        rw [decR, if_neg hd]
        exact Ev.congr (f := fun _ => some (tup Sb.zero false)) (fun k => by rw [if_pos (by decide), if_pos (by omega), if_neg (fun q => he ((toList_inj _ _).1 q).symm)]; rfl) (Ev.now _)
    · have hd : ¬ isSup b (readS b) := fun q => hgd q.2.1
      rw [decR, if_neg hd]
      exact Ev.congr (f := fun _ => some (tup Sb.zero false)) (fun k => by rw [if_neg (by rw [decide_eq_true_iff]; exact hgd)]; rfl) (Ev.now _)
  · have hd : ¬ isSup b (readS b) := fun q => hs q.1
    rw [decR, if_neg hd]
    exact Ev.congr (f := fun _ => some (tup Sb.zero false)) (fun k => by rw [if_neg (by omega)]; rfl) (Ev.now _)
/-- An encoded superblock is that superblock. -/
theorem enc_sup {s : Sb} (h : goodP s) : isSup (strOfNums (encL s)) s := by
  refine ⟨by rw [str_size, encL_len], h, ?_⟩
  rw [str_extract (R_encL s), encL, ← sectL_len s, List.take_left]
end Go.Proofs.YtiajgmocmnjijaaDoor.SupP
