/-
  The laws of nibble that were printed: their plain statements.
-/
import Derived.Test.YtbgojedhciimaaaNibP
import Derived.Test.YtbgojedhciimaaaPNibx6
import Derived.Test.YtbgojedhciimaaaPNibx7
namespace Go.Proofs.Ytbgojedhciimaaa.NibL
open Go.RowKit Go.Proofs.YtbgojedhciimaaaW.PrintWords Go.Proofs.Ytbgojedhciimaaa.PNib Go.Proofs.Ytbgojedhciimaaa.NibP
set_option linter.unusedVariables false

theorem w1 : keyS (⟨#[6, 1]⟩ : ByteArray) = (⟨#[97]⟩, true) := by decide +kernel
theorem w2 : keyS (⟨#[6]⟩ : ByteArray) = (E0, false) := by decide +kernel
theorem w3 : packS (⟨#[1, 2, 3]⟩ : ByteArray) = (⟨#[3, 18, 48]⟩, true) := by decide +kernel
theorem w4 : unpS (⟨#[3, 18, 48, 122, 122]⟩ : ByteArray) = (⟨#[1, 2, 3]⟩, 3, true) := by decide +kernel
theorem w5 : unpS (⟨#[3, 18, 49]⟩ : ByteArray) = (E0, 0, false) := by decide +kernel
theorem w6 : strOfNums (nibL (bytesOf (⟨#[97, 255]⟩ : ByteArray))) = ⟨#[6, 1, 15, 15]⟩ := by decide +kernel
theorem w7 : (NibH.common (⟨#[97, 98, 99]⟩ : ByteArray).data.toList (⟨#[97, 98, 100]⟩ : ByteArray).data.toList) = 2 := by decide +kernel
theorem w8 : goodL (bytesOf (⟨#[]⟩ : ByteArray)) = true := by decide +kernel
theorem w9 : goodL (bytesOf (⟨#[16]⟩ : ByteArray)) = false := by decide +kernel
theorem tl (l : List UInt8) : (⟨l.toArray⟩ : ByteArray).toList = l := by rw [toList_eq]
theorem wakes_f (k : Nat) (hk : 40 < k) : umbellaw02_wakes.f k = some true := by
  unfold umbellaw02_wakes.f
  rw [key_f _ (by decide) k (by show 2 < k; omega), key_f _ (by decide) k (by show 1 < k; omega), pack_f _ (by decide) k (by show 3 < k; omega), unp_f _ (by decide) k (by show 7 < k; omega), unp_f _ (by decide) k (by show 5 < k; omega),
    of_f _ (by decide) k (by show 2 < k; omega), common_f _ _ (by decide) (by decide), good_f _ (by decide) k (by show 0 < k; omega), good_f _ (by decide) k (by show 1 < k; omega), w1, w2, w3, w4, w5, w6, w7, w8, w9]
  simp [toList_eq]
theorem nib_even (l : List Int) : ∀ j, j < l.length → rd (nibL l) ((2 * j : Nat) : Int) = rd l j / 16 ∧ rd (nibL l) ((2 * j + 1 : Nat) : Int) = rd l j % 16 := by
  induction l with
  | nil => intro j h; simp at h
  | cons b l ih =>
    intro j h
    cases j with
    | zero => exact ⟨rfl, rfl⟩
    | succ j =>
      have := ih j (by simp at h; omega)
      rw [nibL_cons]
      exact this
theorem two_big {n : Nat} (h : n ≤ 10000) : n ≤ 9223372036854775807 := by omega
theorem places_loop (a b : ByteArray) (ha : a.size ≤ 500) (hb : b.size ≤ 500) (d : Nat) : ∀ (k j : Nat), j + d = a.size → d + 1100 < k →
    umbellaw02_NibblePlaces.l0 k a b (strOfNums (nibL (bytesOf a))) j = some true := by
  induction d with
  | zero =>
    intro k j hj hk
    obtain ⟨k, rfl⟩ : ∃ m, k = m + 1 := ⟨k - 1, by omega⟩
    have hsz : (a ++ b).size ≤ 1000 := by rw [ByteArray.size_append]; omega
    rw [umbellaw02_NibblePlaces.l0, if_neg (by omega), if_pos (two_big (n := a.size + b.size) (by omega)), of_f _ (by omega) k (by omega), Option.bind_some, of_f _ (by omega) k (by omega), Option.bind_some,
      if_pos (two_big (by rw [str_size, str_size, nibL_length, nibL_length, len_bytesOf, len_bytesOf]; omega)), if_pos (by rw [bytes_app, nibL_app, str_app]), wakes_f k (by omega)]
    rfl
  | succ d ih =>
    intro k j hj hk
    obtain ⟨k, rfl⟩ : ∃ m, k = m + 1 := ⟨k - 1, by omega⟩
    have e1 : wrap64 (2 * (j : Int)) = ((2 * j : Nat) : Int) := by rw [wr (by omega) (by omega)]; omega
    have e2 : wrap64 (((2 * j : Nat) : Int) + 1) = ((2 * j + 1 : Nat) : Int) := by rw [wr (by omega) (by omega)]; omega
    have e3 : wrap64 ((j : Int) + 1) = ((j + 1 : Nat) : Int) := by rw [wr (by omega) (by omega)]; omega
    have hR := R_nibL (R_bytesOf a)
    have hn := nib_even (bytesOf a) j (by rw [len_bytesOf]; omega)
    have hbr := bt_range a j
    rw [umbellaw02_NibblePlaces.l0, e1, e2, e3, str_size, nibL_length, len_bytesOf, bt_str hR, bt_str hR, hn.1, hn.2, u8_and15 _ hbr.1 (by omega), bt_rd a]
    rw [if_pos (by omega), if_pos (by omega), if_pos (by omega), if_pos (by omega), if_pos rfl, if_pos (by omega), if_pos (by omega), if_pos rfl]
    exact ih k (j + 1) (by omega) (by omega)
theorem NibblePlaces : umbellaw02_NibblePlaces.Pure := by
  intro a b _ _
  refine ⟨2000, ?_⟩
  unfold umbellaw02_NibblePlaces.f
  by_cases ha : (a.size : Int) > 500
  · rw [if_pos ha, umbellaw02_NibblePlaces.j0, if_pos rfl, wakes_f _ (by omega)]; rfl
  · rw [if_neg ha]
    by_cases hb : (b.size : Int) > 500
    · rw [decide_eq_true hb, umbellaw02_NibblePlaces.j0, if_pos rfl, wakes_f _ (by omega)]; rfl
    · rw [decide_eq_false hb, umbellaw02_NibblePlaces.j0, if_neg (by decide), of_f a (by omega) _ (by omega), Option.bind_some, str_size, nibL_length, len_bytesOf,
        if_pos (by rw [wr (by omega) (by omega)]; omega)]
      exact places_loop a b (by omega) (by omega) a.size _ 0 (by omega) (by omega)

theorem back_key (s : ByteArray) : keyS (strOfNums (nibL (bytesOf s))) = (s, true) := by
  have hR := R_nibL (R_bytesOf s)
  unfold keyS
  rw [bytes_str _ hR, if_pos ⟨by rw [str_size, nibL_length]; omega, small_nibL (R_bytesOf s)⟩, twoL_nibL _ (R_bytesOf s), str_bytes]
theorem nibL_twoL (l : List Int) (hR : R l) (hs : smallL l = true) : (nibL (twoL l)).take l.length = l := by
  fun_induction twoL l with
  | case1 => rfl
  | case2 x =>
    have h1 := hR x (by simp)
    have h2 : x ≤ 15 := by simpa [smallL] using hs
    simp [nibL]
    omega
  | case3 x y l ih =>
    have h1 := hR x (by simp)
    have h2 := hR y (by simp)
    simp only [smallL, List.all_cons, Bool.and_eq_true, decide_eq_true_eq] at hs
    have := ih (fun z hz => hR z (by simp [hz])) hs.2.2
    rw [nibL_cons]
    simp only [List.length_cons, List.cons_append, List.nil_append, List.take_succ_cons, this]
    congr 1
    · omega
    · congr 1; omega
theorem pack_size {s : ByteArray} (h : goodL (bytesOf s) = true) : (packS s).1.size = 1 + (s.size + 1) / 2 := by
  rw [packS, if_pos h]
  simp [str_size, twoL_length, len_bytesOf]; omega
theorem back_unp (s more : ByteArray) (h : goodL (bytesOf s) = true) : unpS ((packS s).1 ++ more) = (s, ((packS s).1.size : Int), true) := by
  obtain ⟨h1, h2⟩ := good_size h
  have hps := pack_size h
  rw [hps]
  have hRl : R ((s.size : Int) :: twoL (bytesOf s)) := fun x hx => (List.mem_cons.1 hx).elim (fun e => by subst e; omega) (R_twoL _ x)
  have e : bytesOf ((packS s).1 ++ more) = (s.size : Int) :: (twoL (bytesOf s) ++ bytesOf more) := by
    rw [bytes_app, packS, if_pos h]
    show bytesOf (strOfNums _) ++ _ = _
    rw [bytes_str _ hRl]; rfl
  have hl2 : (twoL (bytesOf s)).length = (s.size + 1) / 2 := by rw [twoL_length, len_bytesOf]
  unfold unpS
  rw [e]
  show (if _ then _ else _) = _
  rw [Int.toNat_natCast]
  have ht : (twoL (bytesOf s) ++ bytesOf more).take ((s.size + 1) / 2) = twoL (bytesOf s) := by
    rw [List.take_append, List.take_of_length_le (by omega), hl2]; simp
  have hn : (nibL (twoL (bytesOf s))).take s.size = bytesOf s := by
    have := nibL_twoL _ (R_bytesOf s) h2
    rwa [len_bytesOf] at this
  rw [ht, hn, if_pos ⟨by omega, by rw [List.length_append]; omega, rfl⟩, str_bytes]
  congr 2
theorem unp_pack (s : ByteArray) (h : (unpS s).2.2 = true) : ∃ n : Nat, 1 ≤ n ∧ n ≤ s.size ∧ (unpS s).2.1 = n ∧ packS (unpS s).1 = (s.extract 0 n, true) ∧ (unpS s).1.size ≤ 16 := by
  have hlen := len_bytesOf s
  have hR := R_bytesOf s
  unfold unpS at h ⊢
  cases hb : bytesOf s with
  | nil => rw [hb] at h; cases h
  | cons n l =>
    rw [hb] at h hlen hR
    have hn := hR n List.mem_cons_self
    have hl : R l := fun x hx => hR x (List.mem_cons_of_mem _ hx)
    rw [List.length_cons] at hlen
    obtain ⟨m, hm⟩ : ∃ m, m = (n.toNat + 1) / 2 := ⟨_, rfl⟩
    simp only [← hm] at h ⊢
    by_cases c : n ≤ 16 ∧ m ≤ l.length ∧ twoL ((nibL (l.take m)).take n.toNat) = l.take m
    · rw [if_pos c]
      obtain ⟨c1, c2, c3⟩ := c
      have hlm : (l.take m).length = m := by rw [List.length_take]; omega
      have hRt := R_take (R_nibL (R_take hl m)) n.toNat
      have hsz : (strOfNums ((nibL (l.take m)).take n.toNat)).size = n.toNat := by rw [str_size, List.length_take, nibL_length, hlm]; omega
      refine ⟨1 + m, by omega, by omega, by simp, ?_, by show ByteArray.size _ ≤ 16; rw [hsz]; omega⟩
      have hgood : goodL (bytesOf (strOfNums ((nibL (l.take m)).take n.toNat))) = true := by
        rw [bytes_str _ hRt]
        simp only [goodL, Bool.and_eq_true, decide_eq_true_eq]
        refine ⟨by rw [List.length_take]; omega, ?_⟩
        have := small_nibL (R_take hl m)
        simp only [smallL, List.all_eq_true] at this ⊢
        exact fun x hx => this x (List.mem_of_mem_take hx)
      show packS (strOfNums _) = _
      rw [packS, if_pos hgood, bytes_str _ hRt, c3, hsz]
      congr 1
      apply bytes_inj
      rw [bytes_extract, hb, bytes_str _ (fun x hx => (List.mem_cons.1 hx).elim (fun e => by rw [e]; omega) (fun h => R_take hl m x h)), Nat.add_comm 1 m]
      show _ = n :: l.take m
      congr 1
      omega
    · rw [if_neg c] at h; cases h
theorem unp_no (s : ByteArray) (h : (unpS s).2.2 = false) : unpS s = (E0, 0, false) := by
  unfold unpS at h ⊢
  split
  · rfl
  · rename_i hb
    rw [hb] at h
    split
    · rename_i c
      simp only [if_pos c] at h
      cases h
    · rfl
theorem back_j2 (more : ByteArray) (hm : more.size ≤ 500) (k : Nat) (hk : 1100 < k) : umbellaw02_NibbleBack.j2 k more = some true := by
  obtain ⟨k, rfl⟩ : ∃ m, k = m + 1 := ⟨k - 1, by omega⟩
  rw [umbellaw02_NibbleBack.j2, unp_f more (by omega) k (by omega), Option.bind_some]
  cases h : (unpS more).2.2 with
  | false =>
    rw [if_neg (by decide), unp_no more h]
    simp only []
    rw [if_pos (by rw [toList_eq]), if_pos trivial, wakes_f k (by omega)]; rfl
  | true =>
    obtain ⟨n, h1, h2, h3, h4, h5⟩ := unp_pack more h
    rw [if_pos rfl, pack_f _ (by omega) k (by omega), Option.bind_some, h4, h3, if_pos rfl, if_pos (by omega), if_pos (by omega), if_pos (by omega), Int.toNat_natCast, if_pos rfl, wakes_f k (by omega)]; rfl
theorem back_j1 (n more : ByteArray) (hn : n.size ≤ 500) (hm : more.size ≤ 500) (k : Nat) (hk : 1200 < k) : umbellaw02_NibbleBack.j1 k n more false = some true := by
  obtain ⟨k, rfl⟩ : ∃ m, k = m + 1 := ⟨k - 1, by omega⟩
  rw [umbellaw02_NibbleBack.j1, if_neg (by decide), pack_f n (by omega) k (by omega), Option.bind_some, good_f n (by omega) k (by omega), Option.bind_some]
  have hp2 : (packS n).2 = goodL (bytesOf n) := by unfold packS; split <;> simp_all
  rw [hp2, if_neg (by simp)]
  by_cases h : goodL (bytesOf n) = true
  · have hps := pack_size h
    have hsz := good_size h
    rw [if_pos h, if_pos (two_big (by rw [hps]; omega)), unp_f _ (by rw [ByteArray.size_append, hps]; omega) k (by rw [ByteArray.size_append, hps]; omega), Option.bind_some, back_unp n more h]
    simp only []
    rw [if_pos trivial, if_pos trivial, if_pos trivial, hps, if_pos (by rw [wr (x := (n.size : Int) + 1) (by omega) (by omega), Int.tdiv_eq_ediv_of_nonneg (by omega), wr (x := ((n.size : Int) + 1) / 2) (by omega) (by omega), wr (by omega) (by omega)]; omega)]
    exact back_j2 more hm k (by omega)
  · rw [if_neg h]
    exact back_j2 more hm k (by omega)
theorem NibbleBack : umbellaw02_NibbleBack.Pure := by
  intro key n more _ _ _
  refine ⟨4000, ?_⟩
  unfold umbellaw02_NibbleBack.f
  by_cases ha : (key.size : Int) > 500
  · rw [if_pos ha, umbellaw02_NibbleBack.j0, if_pos rfl, wakes_f _ (by omega)]; rfl
  · rw [if_neg ha]
    by_cases hb : (n.size : Int) > 500
    · rw [if_pos hb, umbellaw02_NibbleBack.j0, if_pos rfl, wakes_f _ (by omega)]; rfl
    · rw [if_neg hb]
      by_cases hc : (more.size : Int) > 500
      · rw [decide_eq_true hc, umbellaw02_NibbleBack.j0, if_pos rfl, wakes_f _ (by omega)]; rfl
      · rw [decide_eq_false hc, umbellaw02_NibbleBack.j0, if_neg (by decide), of_f key (by omega) _ (by omega), Option.bind_some, key_f _ (by rw [str_size, nibL_length, len_bytesOf]; omega) _ (by rw [str_size, nibL_length, len_bytesOf]; omega), Option.bind_some, back_key]
        simp only []
        rw [if_pos trivial, if_pos trivial, str_size, nibL_length, len_bytesOf, wr (x := 2 * (key.size : Int)) (by omega) (by omega)]
        have e : (((2 * key.size : Nat) : Int) != 2 * (key.size : Int)) = false := by rw [bne_eq_false_iff_eq]; omega
        rw [e]
        exact back_j1 n more (by omega) (by omega) _ (by omega)

/-! ### The order -/
def lt : List Int → List Int → Bool
  | _, [] => false
  | [], _ :: _ => true
  | a :: x, b :: y => decide (a < b) || (decide (a = b) && lt x y)
theorem less_lt (x y : List UInt8) : Op.bytesLess x y = lt (x.map fun b => (b.toNat : Int)) (y.map fun b => (b.toNat : Int)) := by
  induction x generalizing y with
  | nil => cases y <;> rfl
  | cons a x ih =>
    cases y with
    | nil => rfl
    | cons b y =>
      rw [Op.bytesLess, ih y]
      simp only [List.map_cons, lt]
      have e1 : decide (a < b) = decide ((a.toNat : Int) < (b.toNat : Int)) := by
        rw [decide_eq_decide, UInt8.lt_iff_toNat_lt]; omega
      have e2 : (a == b) = decide ((a.toNat : Int) = (b.toNat : Int)) := by
        rw [Bool.eq_iff_iff, beq_iff_eq, decide_eq_true_eq, ← UInt8.toNat_inj]; omega
      rw [e1, e2]
theorem less_bytes (s t : ByteArray) : Op.bytesLess s.toList t.toList = lt (bytesOf s) (bytesOf t) := by
  rw [toList_eq, toList_eq, less_lt]; rfl
theorem lt_nib (a b : List Int) (ha : R a) (hb : R b) : lt (nibL a) (nibL b) = lt a b := by
  induction a generalizing b with
  | nil =>
    cases b with
    | nil => rfl
    | cons y b => rw [nibL_cons]; rfl
  | cons x a ih =>
    cases b with
    | nil => rw [nibL_cons]; rfl
    | cons y b =>
      have hx := ha x List.mem_cons_self
      have hy := hb y List.mem_cons_self
      rw [nibL_cons, nibL_cons]
      simp only [List.cons_append, List.nil_append, lt, ih b (fun z h => ha z (List.mem_cons_of_mem _ h)) (fun z h => hb z (List.mem_cons_of_mem _ h))]
      rw [Bool.eq_iff_iff]
      simp only [Bool.or_eq_true, Bool.and_eq_true, decide_eq_true_eq]
      constructor
      · rintro (h | ⟨h1, h | ⟨h2, h3⟩⟩)
        · left; omega
        · left; omega
        · right; exact ⟨by omega, h3⟩
      · rintro (h | ⟨h1, h2⟩)
        · by_cases c : x / 16 < y / 16
          · left; exact c
          · right; exact ⟨by omega, Or.inl (by omega)⟩
        · right; exact ⟨by omega, Or.inr ⟨by omega, h2⟩⟩
theorem lt_two (a b : List Int) (ha : R a) (hb : R b) (sa : smallL a = true) (sb : smallL b = true) (hl : a.length = b.length) : lt (twoL a) (twoL b) = lt a b := by
  fun_induction twoL a generalizing b with
  | case1 => cases b with | nil => rfl | cons y b => simp at hl
  | case2 x =>
    match b, hl with
    | [y], _ =>
      have hx := ha x (by simp)
      have hy := hb y (by simp)
      have hx5 : x ≤ 15 := by simpa [smallL] using sa
      have hy5 : y ≤ 15 := by simpa [smallL] using sb
      simp only [twoL, lt]
      rw [Bool.eq_iff_iff]
      simp only [Bool.or_eq_true, Bool.and_eq_true, decide_eq_true_eq]
      constructor
      · rintro (h | ⟨h1, h⟩)
        · left; omega
        · cases h
      · rintro (h | ⟨h1, h⟩)
        · left; omega
        · cases h
  | case3 x1 x2 a ih =>
    match b, hl with
    | y1 :: y2 :: b, hl =>
      have h1 := ha x1 (by simp)
      have h2 := ha x2 (by simp)
      have h3 := hb y1 (by simp)
      have h4 := hb y2 (by simp)
      simp only [smallL, List.all_cons, Bool.and_eq_true, decide_eq_true_eq] at sa sb
      have hi := ih b (fun z h => ha z (by simp [h])) (fun z h => hb z (by simp [h])) sa.2.2 sb.2.2 (by simpa using hl)
      simp only [twoL, lt, hi]
      rw [Bool.eq_iff_iff]
      simp only [Bool.or_eq_true, Bool.and_eq_true, decide_eq_true_eq]
      constructor
      · rintro (h | ⟨c1, h⟩)
        · by_cases c : x1 < y1
          · left; exact c
          · right; exact ⟨by omega, Or.inl (by omega)⟩
        · right; exact ⟨by omega, Or.inr ⟨by omega, h⟩⟩
      · rintro (h | ⟨c1, h | ⟨c2, h⟩⟩)
        · left; omega
        · left; omega
        · right; exact ⟨by omega, h⟩
theorem NibbleOrder : umbellaw02_NibbleOrder.Pure := by
  intro a b _ _
  refine ⟨2000, ?_⟩
  unfold umbellaw02_NibbleOrder.f
  by_cases ha : (a.size : Int) > 500
  · rw [if_pos ha, umbellaw02_NibbleOrder.j0, if_pos rfl, wakes_f _ (by omega)]; rfl
  · rw [if_neg ha]
    by_cases hb : (b.size : Int) > 500
    · rw [decide_eq_true hb, umbellaw02_NibbleOrder.j0, if_pos rfl, wakes_f _ (by omega)]; rfl
    · have hw := wakes_f 1999 (by omega)
      rw [decide_eq_false hb, umbellaw02_NibbleOrder.j0, if_neg (by decide), of_f a (by omega) _ (by omega), Option.bind_some, of_f b (by omega) _ (by omega), Option.bind_some,
        less_bytes, less_bytes, bytes_str _ (R_nibL (R_bytesOf a)), bytes_str _ (R_nibL (R_bytesOf b)), lt_nib _ _ (R_bytesOf a) (R_bytesOf b), if_neg (by simp), pack_f a (by omega) _ (by omega), Option.bind_some, pack_f b (by omega) _ (by omega), Option.bind_some, hw, Option.bind_some]
      by_cases h1 : (packS a).2 = true
      · rw [if_pos h1]
        by_cases h2 : (packS b).2 = true
        · rw [if_pos h2]
          by_cases h3 : (a.size : Int) = b.size
          · rw [if_pos h3]
            have g1 : goodL (bytesOf a) = true := by unfold packS at h1; split at h1 <;> simp_all
            have g2 : goodL (bytesOf b) = true := by unfold packS at h2; split at h2 <;> simp_all
            obtain ⟨z1, s1⟩ := good_size g1
            obtain ⟨z2, s2⟩ := good_size g2
            have hra : R ((a.size : Int) :: twoL (bytesOf a)) := fun x hx => (List.mem_cons.1 hx).elim (fun e => by subst e; omega) (R_twoL _ x)
            have hrb : R ((b.size : Int) :: twoL (bytesOf b)) := fun x hx => (List.mem_cons.1 hx).elim (fun e => by subst e; omega) (R_twoL _ x)
            have e1 : (packS a).1 = strOfNums ((a.size : Int) :: twoL (bytesOf a)) := by rw [packS, if_pos g1]
            have e2 : (packS b).1 = strOfNums ((b.size : Int) :: twoL (bytesOf b)) := by rw [packS, if_pos g2]
            rw [e1, e2, less_bytes, bytes_str _ hra, bytes_str _ hrb, h3]
            have e3 : lt ((b.size : Int) :: twoL (bytesOf a)) ((b.size : Int) :: twoL (bytesOf b)) = lt (twoL (bytesOf a)) (twoL (bytesOf b)) := by simp [lt]
            rw [e3, lt_two _ _ (R_bytesOf a) (R_bytesOf b) s1 s2 (by rw [len_bytesOf, len_bytesOf]; omega), if_pos (by simp)]
          · rw [if_neg h3]
        · rw [if_neg h2]
      · rw [if_neg h1]
end Go.Proofs.Ytbgojedhciimaaa.NibL
