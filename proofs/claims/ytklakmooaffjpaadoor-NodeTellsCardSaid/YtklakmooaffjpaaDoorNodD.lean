/-
  The reference's Decode in plain words: it answers as Decode does.
-/
import Derived.Test.YtklakmooaffjpaaDoorNodV
import Derived.Test.YtklakmooaffjpaaDoorPNodx14
import Derived.Test.YtklakmooaffjpaaDoorPNodx12
namespace Go.Proofs.YtklakmooaffjpaaDoor.NodD
open Go.RowKit Go.Proofs.YtklakmooaffjpaaDoorW.PrintWords Go.Proofs.YtklakmooaffjpaaDoorW.PrintLast Go.Proofs.YtklakmooaffjpaaDoorW.PrintMore Go.Proofs.YtklakmooaffjpaaDoor.NibP Go.Proofs.YtklakmooaffjpaaDoor.NodP Go.Proofs.YtklakmooaffjpaaDoor.NodE Go.Proofs.YtklakmooaffjpaaDoor.NodG Go.Proofs.YtklakmooaffjpaaDoor.NodI Go.Proofs.YtklakmooaffjpaaDoor.NodJ Go.Proofs.YtklakmooaffjpaaDoor.NodL Go.Proofs.YtklakmooaffjpaaDoor.PNod
set_option linter.unusedVariables false
def zz : Int × ByteArray × Bool × ByteArray × Int × List ByteArray × Bool := (0, (⟨#[]⟩ : ByteArray), false, (⟨#[]⟩ : ByteArray), 0, ([] : List ByteArray), false)
/-- What comes of the Item that was read. -/
def fin (s : ByteArray) (j : It) : Int × ByteArray × Bool × ByteArray × Int × List ByteArray × Bool := if (encR j).1.toList = s.toList then tup j true else zz
theorem app_left {a b c d : ByteArray} (h : a ++ b = c ++ d) (hs : a.size = c.size) : a = c ∧ b = d := by
  have e := congrArg bytesOf h
  rw [NibP.bytes_app, NibP.bytes_app] at e
  obtain ⟨e1, e2⟩ := List.append_inj e (by rw [NibP.len_bytesOf, NibP.len_bytesOf, hs])
  exact ⟨bytes_inj e1, bytes_inj e2⟩
theorem ext_mid (a b c : ByteArray) : (a ++ (b ++ c)).extract a.size (a.size + b.size) = b := by
  apply bytes_inj
  have ha := NibP.len_bytesOf a
  have hb := NibP.len_bytesOf b
  rw [bytes_extract, NibP.bytes_app, NibP.bytes_app, ← ha, ← hb]
  rw [List.take_length_add_append, List.take_left, List.drop_left]
theorem l0_tot (kd : Int) (p : ByteArray) (hp : p.size ≤ 100) (h : Bool) (v : ByteArray) (m : Int) : ∀ (n : Nat) (a t : ByteArray) (acc : List ByteArray) (k : Nat), t.size ≤ n → a.size + t.size ≤ 5000 → acc.length + n ≤ 6000 → n + 10000 < k →
    ∃ L, r9Decode.l0 k (a ++ t) (a.size : Int) kd p h v m acc = some (fin (a ++ t) ⟨kd, p, h, v, m, acc ++ L⟩) ∧ ∀ l : List ByteArray, (∀ x ∈ l, x.size = 32) → t = allB l → L = l
  | n, a, t, acc, 0, hn, ht, ha, hk => by omega
  | n, a, t, acc, k + 1, hn, ht, ha, hk => by
    have w1 : wrap64 ((a.size : Int) + 32) = (a.size : Int) + 32 := NibP.wr (by omega) (by omega)
    have sz : (a ++ t).size = a.size + t.size := ByteArray.size_append
    rw [r9Decode.l0, w1]
    by_cases c : 32 ≤ t.size
    · obtain ⟨b, t', rfl, hb⟩ := split_at t 32 c
      obtain ⟨n', rfl⟩ : ∃ n', n = n' + 1 := ⟨n - 1, by omega⟩
      have hbt : (b ++ t').size = b.size + t'.size := ByteArray.size_append
      obtain ⟨L, h1, h2⟩ := l0_tot kd p hp h v m n' (a ++ b) t' (acc ++ [b]) k (by omega) (by rw [ByteArray.size_append]; omega) (by simp; omega) (by omega)
      refine ⟨b :: L, ?_, fun l hl e => ?_⟩
      · rw [if_pos (by omega), if_pos (by omega), if_pos (by omega), if_pos (by omega)]
        have e1 : ((a.size : Int) + 32).toNat = a.size + b.size := by omega
        have e2 : ((a ++ b).size : Int) = (a.size : Int) + 32 := by rw [ByteArray.size_append, hb]; rfl
        rw [e1, Int.toNat_natCast, ext_mid, ← e2, ← app_assoc, h1, List.append_assoc]; rfl
      · cases l with
        | nil =>
          have := congrArg ByteArray.size e
          rw [hbt] at this
          have z : (allB []).size = 0 := rfl
          omega
        | cons x l =>
          have hx := hl x (List.mem_cons_self)
          obtain ⟨e1, e2⟩ := app_left (show b ++ t' = x ++ allB l from e) (by omega)
          rw [e1, h2 l (fun y hy => hl y (List.mem_cons_of_mem _ hy)) e2]
    · refine ⟨[], ?_, fun l hl e => ?_⟩
      · rw [if_neg (by omega), NodF.renc_f ⟨kd, p, h, v, m, acc⟩ (by simp only; omega) (by simp only; omega) k (by simp only; omega), Option.bind_some, List.append_nil]
        unfold fin tup zz
        split <;> rfl
      · cases l with
        | nil => rfl
        | cons x l =>
          have := congrArg ByteArray.size e
          rw [all_size _ hl, List.length_cons] at this
          omega
theorem j1_tot (kd : Int) (p : ByteArray) (hp : p.size ≤ 100) (h : Bool) (v : ByteArray) (m : Int) (a t : ByteArray) (hs : a.size + t.size ≤ 5000) (k : Nat) (hk : 16000 < k) :
    ∃ L, r9Decode.j1 k (a ++ t) (a.size : Int) kd p h v m = some (fin (a ++ t) ⟨kd, p, h, v, if kd = 2 then 1 else m, L⟩) ∧ ∀ l : List ByteArray, (∀ x ∈ l, x.size = 32) → t = allB l → L = l := by
  obtain ⟨k1, rfl⟩ : ∃ k1, k = k1 + 2 := ⟨k - 2, by omega⟩
  obtain ⟨L, h1, h2⟩ := l0_tot kd p hp h v (if kd = 2 then 1 else m) 5000 a t [] k1 (by omega) hs (by simp) (by omega)
  refine ⟨L, ?_, h2⟩
  rw [r9Decode.j1]
  by_cases c : kd = 2
  · rw [if_pos c] at h1 ⊢
    rw [if_pos c, r9Decode.j2, h1]; rfl
  · rw [if_neg c] at h1 ⊢
    rw [if_neg c, r9Decode.j2, h1]; rfl
theorem bt_here (a t : ByteArray) (x : Int) (h0 : 0 ≤ x) (h1 : x < 256) : bt (a ++ (strOfNums [x] ++ t)) (a.size : Int) = x := by
  have hR : R [x] := fun y hy => by rw [List.mem_singleton.1 hy]; exact ⟨h0, h1⟩
  rw [NibP.bt_rd, NibP.bytes_app, NibP.bytes_app, bytes_str _ hR]
  have e : rd (bytesOf a ++ ([x] ++ bytesOf t)) (a.size : Int) = x := by
    unfold rd
    rw [Int.toNat_natCast, ← NibP.len_bytesOf a]
    simp
  exact e
theorem one_of (t : ByteArray) (h : 0 < t.size) : ∃ (x : Int) (t' : ByteArray), 0 ≤ x ∧ x < 256 ∧ t = strOfNums [x] ++ t' := by
  obtain ⟨b, t', rfl, hb⟩ := split_at t 1 h
  have hR := R_bytesOf b
  have hl : (bytesOf b).length = 1 := by rw [NibP.len_bytesOf, hb]
  match hbb : bytesOf b, hl with
  | [x], _ =>
    have hx := hR x (by rw [hbb]; exact List.mem_singleton_self x)
    refine ⟨x, t', hx.1, hx.2, ?_⟩
    congr 1
    apply bytes_inj
    rw [hbb, bytes_str _ (fun y hy => by rw [List.mem_singleton.1 hy]; exact hx)]
theorem j0_no (kd : Int) (p : ByteArray) (hp : p.size ≤ 100) (m : Int) (a t : ByteArray) (hs : a.size + t.size ≤ 5000) (k : Nat) (hk : 17000 < k) :
    ∃ L, r9Decode.j0 k (a ++ t) (a.size : Int) false kd p false (⟨#[]⟩ : ByteArray) m = some (fin (a ++ t) ⟨kd, p, false, (⟨#[]⟩ : ByteArray), if kd = 2 then 1 else m, L⟩) ∧ ∀ l : List ByteArray, (∀ x ∈ l, x.size = 32) → t = allB l → L = l := by
  obtain ⟨k1, rfl⟩ : ∃ k1, k = k1 + 1 := ⟨k - 1, by omega⟩
  obtain ⟨L, h1, h2⟩ := j1_tot kd p hp false (⟨#[]⟩ : ByteArray) m a t hs k1 (by omega)
  exact ⟨L, by rw [r9Decode.j0, if_neg (by decide), h1], h2⟩
theorem j0_yes (kd : Int) (p : ByteArray) (hp : p.size ≤ 100) (m : Int) (a t : ByteArray) (hs : a.size + t.size ≤ 4000) (k : Nat) (hk : 17000 < k) :
    (∃ r, r9Decode.j0 k (a ++ t) (a.size : Int) true kd p false (⟨#[]⟩ : ByteArray) m = some r ∧ (r = zz ∨ ∃ j, r = fin (a ++ t) j)) ∧
    ∀ (v : ByteArray) (l : List ByteArray), v.size ≤ 16 → (∀ x ∈ l, x.size = 32) → t = vB v ++ allB l → r9Decode.j0 k (a ++ t) (a.size : Int) true kd p false (⟨#[]⟩ : ByteArray) m = some (fin (a ++ t) ⟨kd, p, true, v, if kd = 2 then 1 else m, l⟩) := by
  obtain ⟨k1, rfl⟩ : ∃ k1, k = k1 + 1 := ⟨k - 1, by omega⟩
  have sz : (a ++ t).size = a.size + t.size := ByteArray.size_append
  by_cases c : t.size = 0
  · rw [r9Decode.j0, if_pos rfl, if_pos (by omega)]
    refine ⟨⟨zz, rfl, Or.inl rfl⟩, fun v l hv hl e => ?_⟩
    have := congrArg ByteArray.size e
    rw [val_app v _ hv, ByteArray.size_append, NibP.str_size] at this
    simp at this; omega
  · obtain ⟨x, u, x0, x1, rfl⟩ := one_of t (by omega)
    have zx : (strOfNums [x]).size = 1 := by rw [NibP.str_size]; rfl
    have zu : (strOfNums [x] ++ u).size = 1 + u.size := by rw [ByteArray.size_append, zx]
    have hb := bt_here a u x x0 x1
    have w0 : wrap64 ((a.size : Int) + 1) = (a.size : Int) + 1 := NibP.wr (by omega) (by omega)
    have w1 : wrap64 x = x := NibP.wr (by omega) (by omega)
    have w2 : wrap64 ((a.size : Int) + 1 + x) = (a.size : Int) + 1 + x := NibP.wr (by omega) (by omega)
    have w3 : wrap64 (1 + x) = 1 + x := NibP.wr (by omega) (by omega)
    have w4 : wrap64 ((a.size : Int) + (1 + x)) = (a.size : Int) + (1 + x) := NibP.wr (by omega) (by omega)
    rw [r9Decode.j0, if_pos rfl, if_neg (by omega), if_pos (by omega), if_pos (by omega), hb, w0, w1, w2, w3, w4]
    by_cases d : (u.size : Int) < x
    · rw [if_pos (by omega)]
      refine ⟨⟨zz, rfl, Or.inl rfl⟩, fun v l hv hl e => ?_⟩
      rw [val_app v _ hv] at e
      obtain ⟨e1, e2⟩ := app_left e (by rw [zx, NibP.str_size]; rfl)
      have ex : x = (v.size : Int) := by
        have this : bt (strOfNums [x] ++ u) 0 = bt (strOfNums [(v.size : Int)] ++ u) 0 := by rw [e1]
        have q1 := NodV.bt_first x x0 x1 u
        have q2 := NodV.bt_first (v.size : Int) (by omega) (by omega) u
        rw [q1, q2] at this; exact this
      have := congrArg ByteArray.size e2
      rw [ByteArray.size_append] at this
      omega
    · obtain ⟨b, u', rfl, hbz⟩ := split_at u x.toNat (by omega)
      have zbu : (b ++ u').size = b.size + u'.size := ByteArray.size_append
      have za : (a ++ (strOfNums [x] ++ b)).size = a.size + (1 + b.size) := by rw [ByteArray.size_append, ByteArray.size_append, zx]
      have ea : a ++ (strOfNums [x] ++ (b ++ u')) = (a ++ (strOfNums [x] ++ b)) ++ u' := by simp only [app_assoc]
      have ee : (a ++ (strOfNums [x] ++ (b ++ u'))).extract (a.size + 1) (a.size + 1 + b.size) = b := by
        have := ext_mid (a ++ strOfNums [x]) b u'
        rw [ByteArray.size_append, zx] at this
        rw [← app_assoc a]; exact this
      have n1 : ((a.size : Int) + 1).toNat = a.size + 1 := by omega
      have n2 : ((a.size : Int) + 1 + x).toNat = a.size + 1 + b.size := by omega
      have n3 : (a.size : Int) + (1 + x) = ((a ++ (strOfNums [x] ++ b)).size : Int) := by rw [za]; omega
      obtain ⟨L, h1, h2⟩ := j1_tot kd p hp true b m (a ++ (strOfNums [x] ++ b)) u' (by rw [za]; omega) k1 (by omega)
      rw [if_neg (by omega), if_pos (by omega), if_pos (by omega), if_pos (by omega), n1, n2, ee, n3, ea, h1]
      refine ⟨⟨_, rfl, Or.inr ⟨_, rfl⟩⟩, fun v l hv hl e => ?_⟩
      rw [val_app v _ hv] at e
      obtain ⟨e1, e2⟩ := app_left e (by rw [zx, NibP.str_size]; rfl)
      have ex : x = (v.size : Int) := by
        have this : bt (strOfNums [x] ++ u') 0 = bt (strOfNums [(v.size : Int)] ++ u') 0 := by rw [e1]
        have q1 := NodV.bt_first x x0 x1 u'
        have q2 := NodV.bt_first (v.size : Int) (by omega) (by omega) u'
        rw [q1, q2] at this; exact this
      obtain ⟨e3, e4⟩ := app_left e2 (by omega)
      rw [h2 l hl e4, e3]
theorem fin_of {s : ByteArray} (hs : 0 < s.size) (j : It) : fin s j = zz ∨ (isItem s j ∧ fin s j = tup j true) := by
  unfold fin
  split
  · rename_i h
    have e := (toList_inj _ _).1 h
    right
    refine ⟨?_, rfl⟩
    unfold encR at e
    split at e
    · rename_i hg; exact ⟨hg, e⟩
    · rw [← e] at hs; exact absurd hs (Nat.lt_irrefl 0)
  · exact Or.inl rfl
theorem fin_pos {s : ByteArray} {j : It} (h : isItem s j) : fin s j = tup j true := by
  unfold fin encR
  rw [if_pos h.1, if_pos (by rw [h.2])]
theorem ne_nil {s : ByteArray} (h : 0 < s.size) : ¬ s.toList = ([] : List UInt8) := fun q => by
  have h2 := congrArg List.length ((toList_nil _).1 q)
  rw [NibP.len_bytesOf] at h2
  exact Nat.ne_of_gt h h2
theorem core_p (x : Int) (u : ByteArray) (x0 : 0 ≤ x) (x1 : x < 256) (h3 : ¬ x = 3) (hs : u.size ≤ 3000) (k : Nat) (hk : 20000 < k) : r9Decode.f k (strOfNums [x] ++ u) = if (unpS u).2.2 = true then r9Decode.j0 k (strOfNums [x] ++ u) (wrap64 (1 + (unpS u).2.1)) (x == 1) x (unpS u).1 false (⟨#[]⟩ : ByteArray) 0 else some zz := by
  have zx : (strOfNums [x]).size = 1 := by rw [NibP.str_size]; rfl
  have zu : (strOfNums [x] ++ u).size = 1 + u.size := by rw [ByteArray.size_append, zx]
  have w1 : wrap64 x = x := NibP.wr (by omega) (by omega)
  have e1 : (strOfNums [x] ++ u).extract 1 (strOfNums [x] ++ u).size = u := by
    have := NodG.ext_right (strOfNums [x]) u
    rw [zx] at this; exact this
  unfold r9Decode.f
  rw [if_neg (ne_nil (by omega)), if_pos (by omega), NodV.bt_first x x0 x1 u, w1, if_neg h3, if_pos (by omega), e1, ref_unp_f u (by omega) k (by omega), Option.bind_some]; rfl
theorem core_b (A t : ByteArray) (hA : A.size = 3) (hs : t.size ≤ 3000) (k : Nat) : r9Decode.f k (strOfNums [3] ++ A ++ t) = if bt (strOfNums [3] ++ A ++ t) 3 > 1 then some zz else r9Decode.j0 k (strOfNums [3] ++ A ++ t) 4 ((bt (strOfNums [3] ++ A ++ t) 3) == 1) 3 (⟨#[]⟩ : ByteArray) false (⟨#[]⟩ : ByteArray) (Go.bits .or .i64 (wrap64 ((wrap64 (bt (strOfNums [3] ++ A ++ t) 1)) * 256)) (wrap64 (bt (strOfNums [3] ++ A ++ t) 2))) := by
  have zx : (strOfNums [3]).size = 1 := by rw [NibP.str_size]; rfl
  have zu : (strOfNums [3] ++ A ++ t).size = 4 + t.size := by rw [ByteArray.size_append, ByteArray.size_append, zx, hA]
  have hb : bt (strOfNums [3] ++ A ++ t) 0 = 3 := by rw [app_assoc]; exact NodV.bt_first 3 (by decide) (by decide) _
  unfold r9Decode.f
  rw [if_neg (ne_nil (by omega)), if_pos (by omega), hb, show wrap64 3 = 3 from NibP.wr (by omega) (by omega), if_pos rfl, if_neg (by omega), if_pos (by omega), if_pos (show (1 : Int) < ((strOfNums [3] ++ A ++ t).size : Int) by omega), if_pos (show (2 : Int) < ((strOfNums [3] ++ A ++ t).size : Int) by omega)]; rfl
theorem rdec_neg {s : ByteArray} (h : ∀ i, ¬ isItem s i) (hs : s.size ≤ 2000) (k : Nat) (hk : 20000 < k) : r9Decode.f k s = some (tup It.zero false) := by
  show _ = some zz
  by_cases c : s.size = 0
  · have : s = (⟨#[]⟩ : ByteArray) := by apply bytes_inj; exact List.eq_nil_of_length_eq_zero (by rw [NibP.len_bytesOf]; exact c)
    subst this
    unfold r9Decode.f
    rw [if_pos ((toList_nil _).2 rfl)]; rfl
  · have hz : ∀ j, fin s j = zz := fun j => (fin_of (by omega) j).resolve_right (fun q => h j q.1)
    obtain ⟨x, u, x0, x1, hu⟩ := one_of s (by omega)
    have zx : (strOfNums [x]).size = 1 := by rw [NibP.str_size]; rfl
    have zu : s.size = 1 + u.size := by rw [hu, ByteArray.size_append, zx]
    by_cases h3 : x = 3
    · subst h3
      by_cases d : u.size < 3
      · have hb : bt s 0 = 3 := by rw [hu]; exact NodV.bt_first 3 (by decide) (by decide) _
        unfold r9Decode.f
        rw [if_neg (ne_nil (by omega)), if_pos (by omega), hb, show wrap64 3 = 3 from NibP.wr (by omega) (by omega), if_pos rfl, if_pos (by omega)]; rfl
      · obtain ⟨A, t, ht, hA⟩ := split_at u 3 (by omega)
        have zt : u.size = 3 + t.size := by rw [ht, ByteArray.size_append, hA]
        have hs' : s = strOfNums [3] ++ A ++ t := by rw [hu, ht, app_assoc]
        have za : (strOfNums [3] ++ A).size = 4 := by rw [ByteArray.size_append, zx, hA]
        have C := core_b A t hA (by omega) k
        rw [← hs'] at C
        rw [C]
        by_cases e : bt s 3 > 1
        · rw [if_pos e]
        · rw [if_neg e]
          have Y := j0_yes 3 (⟨#[]⟩ : ByteArray) (by decide) (Go.bits .or .i64 (wrap64 ((wrap64 (bt s 1)) * 256)) (wrap64 (bt s 2))) (strOfNums [3] ++ A) t (by omega) k (by omega)
          have Z := j0_no 3 (⟨#[]⟩ : ByteArray) (by decide) (Go.bits .or .i64 (wrap64 ((wrap64 (bt s 1)) * 256)) (wrap64 (bt s 2))) (strOfNums [3] ++ A) t (by omega) k (by omega)
          rw [za, ← hs'] at Y Z
          cases hv : (bt s 3 == 1) with
          | true =>
            obtain ⟨⟨r, h1, h2⟩, _⟩ := Y
            refine h1.trans ?_
            rcases h2 with h2 | ⟨j, h2⟩
            · rw [h2]
            · rw [h2, hz]
          | false =>
            obtain ⟨L, h1, _⟩ := Z
            refine h1.trans ?_
            rw [hz]
    · have C := core_p x u x0 x1 h3 (by omega) k hk
      rw [← hu] at C
      rw [C]
      cases hun : (unpS u).2.2 with
      | false => rw [if_neg (by decide)]
      | true =>
        obtain ⟨n, n1, n2, n3, _, n5⟩ := NibL.unp_pack u hun
        obtain ⟨A, t, ht, hA⟩ := split_at u n n2
        have zt : u.size = n + t.size := by rw [ht, ByteArray.size_append, hA]
        have hs' : s = strOfNums [x] ++ A ++ t := by rw [hu, ht, app_assoc]
        have za : ((strOfNums [x] ++ A).size : Int) = wrap64 (1 + (unpS u).2.1) := by rw [ByteArray.size_append, zx, hA, n3, NibP.wr (by omega) (by omega)]; omega
        have Y := j0_yes x (unpS u).1 (by omega) 0 (strOfNums [x] ++ A) t (by rw [ByteArray.size_append, zx, hA]; omega) k (by omega)
        have Z := j0_no x (unpS u).1 (by omega) 0 (strOfNums [x] ++ A) t (by rw [ByteArray.size_append, zx, hA]; omega) k (by omega)
        rw [za, ← hs'] at Y Z
        rw [if_pos rfl]
        cases hv : (x == 1) with
        | true =>
          obtain ⟨⟨r, h1, h2⟩, _⟩ := Y
          refine h1.trans ?_
          rcases h2 with h2 | ⟨j, h2⟩
          · rw [h2]
          · rw [h2, hz]
        | false =>
          obtain ⟨L, h1, _⟩ := Z
          refine h1.trans ?_
          rw [hz]
theorem rdec_pos {s : ByteArray} {i : It} (h : isItem s i) (hs : s.size ≤ 2000) (k : Nat) (hk : 20000 < k) : r9Decode.f k s = some (tup i true) := by
  have hF := fin_pos h
  obtain ⟨hg, he⟩ := h
  have hl := good_len hg
  have hv := hg.2.1
  have hs32 := hg.1
  have hb := hg.2.2.1
  obtain ⟨a, p, h, v, m, l⟩ := i
  simp only at hl hv hs32 hb
  have z1 : ∀ x : Int, (strOfNums [x]).size = 1 := fun x => by rw [NibP.str_size]; rfl
  rcases hg.2.2.2 with ⟨ka, h1, h2, h3, h4⟩ | ⟨ka, h1, h2, h3, h4, h5⟩ | ⟨ka, h1, h2, h3, h4, h5⟩
  · simp only at ka h1 h2 h3 h4
    have hl0 := List.eq_nil_of_length_eq_zero h4
    subst ka h2 h3 hl0
    have e : s = strOfNums [1] ++ ((packS p).1 ++ vB v) := by rw [← he]; unfold encB; simp only [if_pos]; rw [app_assoc]; rfl
    have zs : s.size = 1 + ((packS p).1.size + (vB v).size) := by rw [e, ByteArray.size_append, ByteArray.size_append, z1]
    have C := core_p 1 ((packS p).1 ++ vB v) (by decide) (by decide) (by decide) (by rw [ByteArray.size_append]; omega) k hk
    rw [NibL.back_unp p (vB v) h1, ← e] at C
    dsimp only at C
    rw [C, if_pos rfl]
    have za : ((strOfNums [1] ++ (packS p).1).size : Int) = wrap64 (1 + ((packS p).1.size : Int)) := by rw [ByteArray.size_append, z1, NibP.wr (by omega) (by omega)]; omega
    have Y := (j0_yes 1 p (by have := (good_size h1).1; omega) 0 (strOfNums [1] ++ (packS p).1) (vB v) (by rw [ByteArray.size_append, z1]; omega) k (by omega)).2 v [] hv (fun x hx => by cases hx) (NodG.app_nil _).symm
    rw [za, app_assoc, ← e, if_neg (by decide), hF] at Y
    exact Y
  · simp only at ka h1 h2 h3 h4 h5 hb
    have hv0 : v = (⟨#[]⟩ : ByteArray) := nil_of (hb.resolve_left (by rw [h3]; decide))
    subst ka h3 h4 hv0
    have e : s = strOfNums [2] ++ ((packS p).1 ++ allB l) := by rw [← he]; unfold encB; simp only [if_pos, if_neg (show ¬ ((2 : Int) = 1) by decide)]; rw [app_assoc]; rfl
    have zs : s.size = 1 + ((packS p).1.size + (allB l).size) := by rw [e, ByteArray.size_append, ByteArray.size_append, z1]
    have C := core_p 2 ((packS p).1 ++ allB l) (by decide) (by decide) (by decide) (by rw [ByteArray.size_append]; omega) k hk
    rw [NibL.back_unp p (allB l) h1, ← e] at C
    dsimp only at C
    rw [C, if_pos rfl]
    have za : ((strOfNums [2] ++ (packS p).1).size : Int) = wrap64 (1 + ((packS p).1.size : Int)) := by rw [ByteArray.size_append, z1, NibP.wr (by omega) (by omega)]; omega
    obtain ⟨L, Y, hL⟩ := j0_no 2 p (by have := (good_size h1).1; omega) 0 (strOfNums [2] ++ (packS p).1) (allB l) (by rw [ByteArray.size_append, z1]; omega) k (by omega)
    rw [hL l hs32 rfl, za, app_assoc, ← e, if_pos rfl, hF] at Y
    exact Y
  · simp only at ka h1 h2 h3 h4 h5 hb
    have hp0 := nil_of h1
    subst ka hp0
    have j := join256 m h2 h3
    have r1 : 0 ≤ m / 256 % 256 ∧ m / 256 % 256 < 256 := by omega
    have r2 : 0 ≤ m % 256 ∧ m % 256 < 256 := by omega
    have two : ∀ f : Int, (strOfNums [m / 256 % 256] ++ (strOfNums [m % 256] ++ strOfNums [f])).size = 3 := fun f => by rw [ByteArray.size_append, ByteArray.size_append, z1, z1, z1]
    have main : ∀ (f : Int) (t : ByteArray), 0 ≤ f → f < 256 → t.size ≤ 3000 → s = strOfNums [3] ++ (strOfNums [m / 256 % 256] ++ (strOfNums [m % 256] ++ strOfNums [f])) ++ t → f ≤ 1 →
        r9Decode.f k s = r9Decode.j0 k s 4 (f == 1) 3 (⟨#[]⟩ : ByteArray) false (⟨#[]⟩ : ByteArray) m := by
      intro f t f0 f1 ht e hf
      have C := core_b (strOfNums [m / 256 % 256] ++ (strOfNums [m % 256] ++ strOfNums [f])) t (two f) ht k
      have b1 : bt s 1 = m / 256 % 256 := by
        have := bt_here (strOfNums [3]) (strOfNums [m % 256] ++ (strOfNums [f] ++ t)) (m / 256 % 256) r1.1 r1.2
        rw [z1] at this
        rw [e]; simp only [app_assoc]; exact this
      have b2 : bt s 2 = m % 256 := by
        have := bt_here (strOfNums [3] ++ strOfNums [m / 256 % 256]) (strOfNums [f] ++ t) (m % 256) r2.1 r2.2
        rw [ByteArray.size_append, z1, z1] at this
        rw [e]; simp only [app_assoc] at this ⊢; exact this
      have b3 : bt s 3 = f := by
        have := bt_here (strOfNums [3] ++ (strOfNums [m / 256 % 256] ++ strOfNums [m % 256])) t f f0 f1
        rw [ByteArray.size_append, ByteArray.size_append, z1, z1, z1] at this
        rw [e]; simp only [app_assoc] at this ⊢; exact this
      rw [← e, b1, b2, b3, if_neg (by omega), NibP.wr (x := m / 256 % 256) (by omega) (by omega), NibP.wr (x := m % 256) (by omega) (by omega), j] at C
      exact C
    by_cases hh : h = true
    · subst hh
      have e : s = strOfNums [3] ++ (strOfNums [m / 256 % 256] ++ (strOfNums [m % 256] ++ strOfNums [1])) ++ (vB v ++ allB l) := by
        rw [← he]; unfold encB
        simp only [if_neg (show ¬ ((3 : Int) = 1) by decide), if_neg (show ¬ ((3 : Int) = 2) by decide), if_pos, app_assoc, two_app]; rfl
      have zs : s.size = 1 + 3 + ((vB v).size + (allB l).size) := by rw [e, ByteArray.size_append, ByteArray.size_append, z1, two, ByteArray.size_append]
      rw [main 1 _ (by decide) (by decide) (by rw [ByteArray.size_append]; omega) e (by decide)]
      have za : (strOfNums [3] ++ (strOfNums [m / 256 % 256] ++ (strOfNums [m % 256] ++ strOfNums [1]))).size = 4 := by rw [ByteArray.size_append, z1, two]
      have Y := (j0_yes 3 (⟨#[]⟩ : ByteArray) (by decide) m (strOfNums [3] ++ (strOfNums [m / 256 % 256] ++ (strOfNums [m % 256] ++ strOfNums [1]))) (vB v ++ allB l) (by rw [za, ByteArray.size_append]; omega) k (by omega)).2 v l hv hs32 rfl
      rw [za, ← e, if_neg (by decide), hF] at Y
      exact Y
    · have hf := Bool.eq_false_iff.2 hh
      have hv0 : v = (⟨#[]⟩ : ByteArray) := nil_of (hb.resolve_left hh)
      subst hf hv0
      have e : s = strOfNums [3] ++ (strOfNums [m / 256 % 256] ++ (strOfNums [m % 256] ++ strOfNums [0])) ++ allB l := by
        rw [← he]; unfold encB
        simp only [if_neg (show ¬ ((3 : Int) = 1) by decide), if_neg (show ¬ ((3 : Int) = 2) by decide), if_neg (show ¬ (false = true) by decide), app_assoc, two_app]; rfl
      have zs : s.size = 1 + 3 + (allB l).size := by rw [e, ByteArray.size_append, ByteArray.size_append, z1, two]
      rw [main 0 _ (by decide) (by decide) (by omega) e (by decide)]
      have za : (strOfNums [3] ++ (strOfNums [m / 256 % 256] ++ (strOfNums [m % 256] ++ strOfNums [0]))).size = 4 := by rw [ByteArray.size_append, z1, two]
      obtain ⟨L, Y, hL⟩ := j0_no 3 (⟨#[]⟩ : ByteArray) (by decide) m (strOfNums [3] ++ (strOfNums [m / 256 % 256] ++ (strOfNums [m % 256] ++ strOfNums [0]))) (allB l) (by rw [za]; omega) k (by omega)
      rw [hL l hs32 rfl, za, ← e, if_neg (by decide), hF] at Y
      exact Y
end Go.Proofs.YtklakmooaffjpaaDoor.NodD
