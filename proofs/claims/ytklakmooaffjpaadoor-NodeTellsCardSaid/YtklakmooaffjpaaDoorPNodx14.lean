import Derived.Test.YtklakmooaffjpaaDoorNodI
import Derived.Test.YtklakmooaffjpaaDoorPNodx10
import Derived.Test.YtklakmooaffjpaaDoorSQ
import Derived.Test.YtklakmooaffjpaaDoorPNodx0
import Derived.Test.YtklakmooaffjpaaDoorPNodx5
section
/-
  The reference's text of an Item: the same as the program's.
-/
namespace Go.Proofs.YtklakmooaffjpaaDoor.NodF
open Go.RowKit Go.Proofs.YtklakmooaffjpaaDoorW.PrintWords Go.Proofs.YtklakmooaffjpaaDoorW.PrintLast Go.Proofs.YtklakmooaffjpaaDoorW.PrintMore Go.Proofs.YtklakmooaffjpaaDoor.PNod Go.Proofs.YtklakmooaffjpaaDoor.NibP Go.Proofs.YtklakmooaffjpaaDoor.NodO Go.Proofs.YtklakmooaffjpaaDoor.NodH Go.Proofs.YtklakmooaffjpaaDoor.NodP Go.Proofs.YtklakmooaffjpaaDoor.NodQ Go.Proofs.YtklakmooaffjpaaDoor.NodE
set_option linter.unusedVariables false
theorem renc_loop (i : It) (hl : i.l.length ≤ 16) (hs : ∀ x ∈ i.l, x.size = 32) : ∀ (d j k : Nat) (acc : ByteArray), j + d = i.l.length → d < k → acc.size ≤ 1000 + 32 * j → r9Encode.l0 k acc (j : Int) i.k i.p i.h i.v i.m i.l = some (acc ++ allB (i.l.drop j))
  | 0, j, k, acc, h, hk, ha => by
    obtain ⟨k1, rfl⟩ : ∃ k1, k = k1 + 1 := ⟨k - 1, by omega⟩
    rw [r9Encode.l0, if_neg (by omega), List.drop_eq_nil_of_le (by omega), allB]
    congr 1
    apply bytes_inj; simp [bytesOf]
  | d + 1, j, k, acc, h, hk, ha => by
    obtain ⟨k1, rfl⟩ : ∃ k1, k = k1 + 1 := ⟨k - 1, by omega⟩
    have hj : j < i.l.length := by omega
    have hr : rdOf ByteArray.empty i.l (j : Int) = i.l[j] := by
      unfold rdOf
      rw [Int.toNat_natCast, List.getD_eq_getElem?_getD, List.getElem?_eq_getElem hj]; rfl
    have hz : i.l[j].size = 32 := hs _ (List.getElem_mem hj)
    have w2 : wrap64 ((j : Int) + 1) = ((j + 1 : Nat) : Int) := by rw [NibP.wr (by omega) (by omega)]; omega
    rw [r9Encode.l0, if_pos (by omega), if_pos (by omega), hr, if_pos (by omega), w2, renc_loop i hl hs d (j + 1) k1 (acc ++ i.l[j]) (by omega) (by omega) (by rw [ByteArray.size_append]; omega), List.drop_eq_getElem_cons hj, allB]
    congr 1
    apply bytes_inj; simp [bytesOf]
theorem renc_j0 (i : It) (hl : i.l.length ≤ 16) (hs : ∀ x ∈ i.l, x.size = 32) (k : Nat) (hk : 20 < k) (acc : ByteArray) (ha : acc.size ≤ 1000) : r9Encode.j0 k acc i.k i.p i.h i.v i.m i.l = some (acc ++ allB i.l) := by
  obtain ⟨k1, rfl⟩ : ∃ k1, k = k1 + 1 := ⟨k - 1, by omega⟩
  rw [r9Encode.j0]
  have := renc_loop i hl hs i.l.length 0 k1 acc (by omega) (by omega) (by omega)
  rw [show ((0 : Nat) : Int) = 0 from rfl, List.drop_zero] at this
  exact this
theorem two_one (a : Int) (s v : ByteArray) : s ++ (strOfNums [1, a] ++ v) = s ++ (⟨#[1]⟩ : ByteArray) ++ (strOfNums [a] ++ v) := by
  apply bytes_inj
  simp [bytesOf, strOfNums]
theorem all_nil {l : List ByteArray} (h : l.length = 0) : allB l = (⟨#[]⟩ : ByteArray) := by
  rw [List.eq_nil_of_length_eq_zero h]; rfl
theorem app_nil (s : ByteArray) : s ++ (⟨#[]⟩ : ByteArray) = s := by apply bytes_inj; simp [bytesOf]
theorem renc_f (i : It) (hp : i.p.size ≤ 1000000) (hl : i.l.length ≤ 100000) (k : Nat) (hk : i.p.size + i.l.length + 50 < k) : r9Encode.f k i.k i.p i.h i.v i.m i.l = some (encR i).1 := by
  unfold r9Encode.f encR
  rw [rgood_f i hp hl k (by omega), Option.bind_some]
  by_cases hg : goodP i
  · have hl6 := good_len hg
    have hv := hg.2.1
    have hpk := pack_size i.p
    have h1 : (strOfNums [i.k % 256]).size = 1 := by rw [NibP.str_size]; rfl
    have h2 : (strOfNums [i.m / 256 % 256, i.m % 256]).size = 2 := by rw [NibP.str_size]; rfl
    have h3 : (strOfNums [1, (i.v.size : Int) % 256]).size = 2 := by rw [NibP.str_size]; rfl
    have h4 : (strOfNums [(i.v.size : Int) % 256]).size = 1 := by rw [NibP.str_size]; rfl
    have z0 : (⟨#[0]⟩ : ByteArray).size = 1 := rfl
    have J := fun acc ha => renc_j0 i hl6 hg.1 k (by omega) acc ha
    rw [if_pos (decide_eq_true hg), if_pos hg, Option.bind_some]
    unfold encB
    by_cases kc : i.k = 3
    · have ka : ¬ i.k = 1 := by omega
      have kb : ¬ i.k = 2 := by omega
      rw [if_pos kc, Option.bind_some, if_pos (by omega)]
      simp only [if_neg ka, if_neg kb]
      by_cases hh : i.h = true
      · rw [if_pos hh, if_pos hh, Option.bind_some, if_pos (by omega), if_pos (by simp only [ByteArray.size_append]; omega), J _ (by simp only [ByteArray.size_append]; omega), two_one, vB]
      · rw [if_neg hh, if_neg hh, if_pos (by rw [ByteArray.size_append]; omega), J _ (by simp only [ByteArray.size_append]; omega)]
    · rw [if_neg kc, NibP.ref_pack_f i.p hp k (by omega), Option.bind_some, if_pos (by omega)]
      by_cases ka : i.k = 1
      · have h0 : i.l.length = 0 := by
          obtain ⟨_, _, _, h | h | h⟩ := hg
          · exact h.2.2.2.2
          · have := h.1; omega
          · have := h.1; omega
        rw [if_pos ka, Option.bind_some, if_pos (by omega), if_pos (by simp only [ByteArray.size_append]; omega), J _ (by simp only [ByteArray.size_append]; omega)]
        simp only [if_pos ka]
        rw [all_nil h0, app_nil, vB]
      · have kb : i.k = 2 := by
          obtain ⟨_, _, _, h | h | h⟩ := hg
          · exact absurd h.1 ka
          · exact h.1
          · exact absurd h.1 kc
        rw [if_neg ka, J _ (by simp only [ByteArray.size_append]; omega)]
        simp only [if_neg ka, if_pos kb]
  · rw [if_neg (by rw [decide_eq_true_iff]; exact hg), if_neg hg]
end Go.Proofs.YtklakmooaffjpaaDoor.NodF
end

section
-- Written by a program of this session for this seat. Not trusted: Lean checks it.
namespace Go.Proofs.YtklakmooaffjpaaDoor.PNod
open Go.RowKit Go.Proofs.YtklakmooaffjpaaDoorW.PrintWords Go.Proofs.YtklakmooaffjpaaDoorW.PrintLast Go.Proofs.YtklakmooaffjpaaDoorW.PrintMore
attribute [local go_sem] max2_int min2_int max_two min_two max_three min_three max_four min_four   -- for this text's walks alone
set_option linter.unusedVariables false
set_option linter.unusedSimpArgs false
open Go.Proofs.YtklakmooaffjpaaDoor.HW Go.Proofs.YtklakmooaffjpaaDoor.DgsB

/-! ### r4Of: function 31 -/
def r4Of.f (a0 : ByteArray) : Option (ByteArray) := if a0.size ≤ 1000000 then some (strOfNums (DgsO.ofB (bytesOf a0))) else none
theorem r4Of.calls (a0 : ByteArray) (r : ByteArray) (w : World) (h : r4Of.f a0 = some r) :
  Calls Tryd.prog 31 #[.string a0] w fun e w' => e = .returned (.string r) ∧ Below w.heap.size w w' := by
 unfold r4Of.f at h
 split at h
 ·rename_i hq
  rw [← Option.some.inj h]
  exact DgsA.rof_c a0 hq w
 ·cases h


/-! ### r9Hash: function 16 -/
def r9Hash.f (k : Nat) (a0_0 : Int) (a0_1 : ByteArray) (a0_2 : Bool) (a0_3 : ByteArray) (a0_4 : Int) (l0_5 : List ByteArray) : Option (ByteArray) := (r9Encode.f k a0_0 a0_1 a0_2 a0_3 a0_4 l0_5).bind fun t302 => (if t302.toList = ([] : List UInt8) then (some (⟨#[]⟩ : ByteArray)) else ((r4Of.f t302).bind fun t303 => (some t303)))
set_option maxHeartbeats 8000000 in
set_option maxRecDepth 100000 in
theorem r9Hash.calls (k : Nat) (a0_0 : Int) (a0_1 : ByteArray) (a0_2 : Bool) (a0_3 : ByteArray) (a0_4 : Int) (A0_5 : Option Addr) (c0_5 : Nat) (l0_5 : List ByteArray) (r : ByteArray) (w : World) (hr0_5 : Kd.C Kd.string w A0_5 l0_5.length l0_5) (hc0_5 : l0_5.length ≤ c0_5) (h : r9Hash.f k a0_0 a0_1 a0_2 a0_3 a0_4 l0_5 = some r) :
  Calls Tryd.prog 16 #[.agg #[.int .i64 a0_0, .string a0_1, .bool a0_2, .string a0_3, .int .i64 a0_4, .slice A0_5 l0_5.length c0_5]] w fun e w' => e = .returned (.string r) ∧ Below w.heap.size w w' := by
 have hu24 := Tryd.underlying24
 have HR0_5 := A0_.mk hr0_5
 have HC0_5 := A0_.mk hc0_5
 clear hr0_5 hc0_5
 have HB := A0_.mk (Below.refl w.heap.size w)
 have H : ((r9Encode.f k a0_0 a0_1 a0_2 a0_3 a0_4 l0_5).bind fun t302 => (if t302.toList = ([] : List UInt8) then (some (⟨#[]⟩ : ByteArray)) else ((r4Of.f t302).bind fun t303 => (some t303)))) = some r := h
 clear h
 replace H := Option.bind_eq_some_iff.mp H
 obtain ⟨t302, A20, H⟩ := H
 try dsimp only at H
 have A2 := A0_.mk A20
 clear A20
 by_cases c3 : t302.toList = ([] : List UInt8)
 ·rw [if_pos c3] at H
  have c3b0 : (t302.toList == ([] : List UInt8)) = true := beq_iff_eq.mpr c3
  have c3b1 : (t302.toList != ([] : List UInt8)) = false := bne_eq_false_iff_eq.mpr c3
  clear c3
  obtain rfl := Option.some.inj H
  go_enter Tryd.func16, Tryd.ntmps16
  go_wp2_with (first | ((with_reducible refine gD (N := 1) rfl ?_); refine xE ?hg (N := 1) ?hd (cs := #[.int .i64 a0_0, .string a0_1, .bool a0_2, .string a0_3, .int .i64 a0_4, .slice A0_5 l0_5.length c0_5]) (t := 24) ?hr ?_; (case hd => rfl); (case hg => rfl); (case hr => first | (go_simp; done) | (go_simp; rfl)); intro gb301 hg w4 hbox hb; have BK301 := A0_.mk (hbox); have GW301 := A0_.mk ((by rw [hg]; exact (wZ SQ.bw) : w.heap.size ≤ gb301)); have GE301 := A0_.mk ((by rw [hg]; exact (wZ SQ.bw) : w.heap.size ≤ gb301)); replace HB := A0_.mk (wT SQ.bw hb); clear hb hbox hg; obtain ⟨hcz5_0, hcz5_1, hcz5_2, hcz5_3, hcz5_4, hcz5_5, hfz5_0, hfz5_1, hfz5_2, hfz5_3, hfz5_4, hfz5_5⟩ := SQ.cs6 BK301.out) | ((with_reducible refine gC (f := 15) rfl ?_); refine gL (some 5) rfl rfl Tryd.func15 (by kernel_rfl) rfl #[.agg #[.int .i64 a0_0, .string a0_1, .bool a0_2, .string a0_3, .int .i64 a0_4, .slice A0_5 l0_5.length c0_5]] rfl SQ.sm ?_; (with_reducible refine (r9Encode.calls k a0_0 a0_1 a0_2 a0_3 a0_4 _ _ l0_5 t302 _ ?side1 ?side2 A2.out).mono ?_); (case side1 => repeat (first | exact (Kd.C_below HR0_5.out HB.out) | (with_reducible refine Kd.C_alloc ?_ _) | (with_reducible refine Kd.C_drewN ?_ _) | (with_reducible refine Kd.C_drew ?_))); (case side2 => exact HC0_5.out); rintro e w6 ⟨rfl, hb⟩; refine ⟨_, rfl, ?_⟩; replace BK301 := A0_.mk (bB (g := gb301) SQ.kw hb); replace HB := A0_.mk (wT SQ.bw hb); clear hb))
  go_ret
  exact ⟨SQ.er, SQ.bw⟩
 ·rw [if_neg c3] at H
  have c3b0 : (t302.toList == ([] : List UInt8)) = false := beq_eq_false_iff_ne.mpr c3
  have c3b1 : (t302.toList != ([] : List UInt8)) = true := bne_iff_ne.mpr c3
  replace H := Option.bind_eq_some_iff.mp H
  obtain ⟨t303, A70, H⟩ := H
  try dsimp only at H
  have A7 := A0_.mk A70
  clear A70
  obtain rfl := Option.some.inj H
  go_enter Tryd.func16, Tryd.ntmps16
  go_wp2_with (first | ((with_reducible refine gD (N := 1) rfl ?_); refine xE ?hg (N := 1) ?hd (cs := #[.int .i64 a0_0, .string a0_1, .bool a0_2, .string a0_3, .int .i64 a0_4, .slice A0_5 l0_5.length c0_5]) (t := 24) ?hr ?_; (case hd => rfl); (case hg => rfl); (case hr => first | (go_simp; done) | (go_simp; rfl)); intro gb301 hg w8 hbox hb; have BK301 := A0_.mk (hbox); have GW301 := A0_.mk ((by rw [hg]; exact (wZ SQ.bw) : w.heap.size ≤ gb301)); have GE301 := A0_.mk ((by rw [hg]; exact (wZ SQ.bw) : w.heap.size ≤ gb301)); replace HB := A0_.mk (wT SQ.bw hb); clear hb hbox hg; obtain ⟨hcz9_0, hcz9_1, hcz9_2, hcz9_3, hcz9_4, hcz9_5, hfz9_0, hfz9_1, hfz9_2, hfz9_3, hfz9_4, hfz9_5⟩ := SQ.cs6 BK301.out) | ((with_reducible refine gC (f := 15) rfl ?_); refine gL (some 5) rfl rfl Tryd.func15 (by kernel_rfl) rfl #[.agg #[.int .i64 a0_0, .string a0_1, .bool a0_2, .string a0_3, .int .i64 a0_4, .slice A0_5 l0_5.length c0_5]] rfl SQ.sm ?_; (with_reducible refine (r9Encode.calls k a0_0 a0_1 a0_2 a0_3 a0_4 _ _ l0_5 t302 _ ?side1 ?side2 A2.out).mono ?_); (case side1 => repeat (first | exact (Kd.C_below HR0_5.out HB.out) | (with_reducible refine Kd.C_alloc ?_ _) | (with_reducible refine Kd.C_drewN ?_ _) | (with_reducible refine Kd.C_drew ?_))); (case side2 => exact HC0_5.out); rintro e w10 ⟨rfl, hb⟩; refine ⟨_, rfl, ?_⟩; replace BK301 := A0_.mk (bB (g := gb301) SQ.kw hb); replace HB := A0_.mk (wT SQ.bw hb); clear hb) | ((with_reducible refine gC (f := 31) rfl ?_); refine gL (some 9) rfl rfl Tryd.func31 (by kernel_rfl) rfl #[.string t302] rfl SQ.sm ?_; (with_reducible refine (r4Of.calls t302 t303 _ A7.out).mono ?_); rintro e w11 ⟨rfl, hb⟩; refine ⟨_, rfl, ?_⟩; replace BK301 := A0_.mk (bB (g := gb301) SQ.kw hb); replace HB := A0_.mk (wT SQ.bw hb); clear hb))
  go_ret
  exact ⟨SQ.er, SQ.bw⟩

end Go.Proofs.YtklakmooaffjpaaDoor.PNod
end

section
/-
  An Item's hash: the program's and the reference's.
-/
namespace Go.Proofs.YtklakmooaffjpaaDoor.NodN
open Go.RowKit Go.Proofs.YtklakmooaffjpaaDoorW.PrintWords Go.Proofs.YtklakmooaffjpaaDoorW.PrintLast Go.Proofs.YtklakmooaffjpaaDoorW.PrintMore Go.Proofs.YtklakmooaffjpaaDoor.NibP Go.Proofs.YtklakmooaffjpaaDoor.NodP Go.Proofs.YtklakmooaffjpaaDoor.NodE
set_option linter.unusedVariables false
def ofS (s : ByteArray) : ByteArray := strOfNums (DgsO.ofB (bytesOf s))
theorem enc_size {i : It} (h : goodP i) : 1 ≤ (encB i).size ∧ (encB i).size ≤ 1000 := by
  have hl := good_len h
  have hs := all_size i.l h.1
  have hv := h.2.1
  have hp := pack_size i.p
  have h1 : (strOfNums [i.k % 256]).size = 1 := by rw [NibP.str_size]; rfl
  have h2 : (strOfNums [i.m / 256 % 256, i.m % 256]).size = 2 := by rw [NibP.str_size]; rfl
  have h3 : (vB i.v).size = 1 + i.v.size := by rw [vB, ByteArray.size_append, NibP.str_size]; rfl
  have z0 : (⟨#[0]⟩ : ByteArray).size = 1 := rfl
  have z1 : (⟨#[1]⟩ : ByteArray).size = 1 := rfl
  unfold encB
  split
  · simp only [ByteArray.size_append]; omega
  · split
    · simp only [ByteArray.size_append]; omega
    · split <;> (simp only [ByteArray.size_append]; omega)
def hashI (i : It) : ByteArray × Bool := if goodP i then (ofS (encB i), true) else (⟨#[]⟩, false)
theorem hash_f (i : It) (hp : i.p.size ≤ 1000000) (k : Nat) (hk : i.p.size + 1 < k) : PNod.node_Hash.f k i.k i.p i.h i.v i.m i.l = some (hashI i) := by
  unfold PNod.node_Hash.f hashI
  rw [enc_f i hp k hk, Option.bind_some, NodE.encR]
  by_cases hg : goodP i
  · have hz := enc_size hg
    rw [if_pos hg, if_pos hg]
    simp only [if_pos]
    unfold PNod.digest_Of.f
    rw [if_pos (by omega)]; rfl
  · rw [if_neg hg, if_neg hg, if_neg (by decide)]
theorem rhash_f (i : It) (hp : i.p.size ≤ 1000000) (hl : i.l.length ≤ 100000) (k : Nat) (hk : i.p.size + i.l.length + 50 < k) : PNod.r9Hash.f k i.k i.p i.h i.v i.m i.l = some (hashI i).1 := by
  unfold PNod.r9Hash.f hashI
  rw [NodF.renc_f i hp hl k hk, Option.bind_some, NodE.encR]
  by_cases hg : goodP i
  · have hz := enc_size hg
    rw [if_pos hg, if_pos hg]
    dsimp only
    have hne : ¬ (encB i).toList = ([] : List UInt8) := fun q => by
      have h1 := congrArg List.length ((toList_nil _).1 q)
      rw [NibP.len_bytesOf, List.length_nil] at h1
      omega
    rw [if_neg hne]
    unfold PNod.r4Of.f
    rw [if_pos (by omega)]; rfl
  · rw [if_neg hg, if_neg hg, if_pos ((toList_nil _).2 rfl)]
end Go.Proofs.YtklakmooaffjpaaDoor.NodN
end

section
/-
  The nodes' wakes in plain words.
-/
namespace Go.Proofs.YtklakmooaffjpaaDoor.NodW
open Go.RowKit Go.Proofs.YtklakmooaffjpaaDoorW.PrintWords Go.Proofs.YtklakmooaffjpaaDoorW.PrintLast Go.Proofs.YtklakmooaffjpaaDoorW.PrintMore Go.Proofs.YtklakmooaffjpaaDoor.PNod Go.Proofs.YtklakmooaffjpaaDoor.NodP Go.Proofs.YtklakmooaffjpaaDoor.NodE Go.Proofs.YtklakmooaffjpaaDoor.NodN Go.Proofs.YtklakmooaffjpaaDoor.NodL Go.Proofs.YtklakmooaffjpaaDoor.NodI
set_option linter.unusedVariables false
def H (v : Int) : ByteArray := strOfNums (List.replicate 32 v)
theorem h1_f : u9Hash.f 40 1 = some (H 1) := by decide +kernel
theorem h2_f : u9Hash.f 40 2 = some (H 2) := by decide +kernel
def i1 : It := ⟨1, ⟨#[1, 2, 3]⟩, true, ⟨#[118]⟩, 0, []⟩
def i2 : It := ⟨3, ⟨#[]⟩, false, ⟨#[]⟩, 32769, [H 1, H 2]⟩
def i3 : It := ⟨3, ⟨#[]⟩, false, ⟨#[]⟩, 1, [H 1]⟩
def i4 : It := ⟨1, ⟨#[]⟩, true, ⟨#[]⟩, 0, []⟩
theorem g1 : goodP i1 := by decide +kernel
theorem g2 : goodP i2 := by decide +kernel
theorem g3 : ¬ goodP i3 := by decide +kernel
theorem g4 : goodP i4 := by decide +kernel
theorem e1 : (encB i1).toList = ([1, 3, 18, 48, 1, 118] : List UInt8) := by decide +kernel
theorem e2 : (encB i2).size = 68 := by decide +kernel
theorem e2b : ((encB i2).extract 0 4).toList = ([3, 128, 1, 0] : List UInt8) := by decide +kernel
theorem e4 : encB i4 = (⟨#[1, 0, 0]⟩ : ByteArray) := by decide +kernel
def z : ByteArray := ⟨#[1, 0, 0, 122]⟩
theorem z_read : NodR.read_f 20001 z = some (1, ⟨#[]⟩, true, ⟨#[]⟩, 0, [⟨#[122]⟩]) := by kernel_rfl
theorem z_no (i : It) : ¬ isItem z i := by
  rintro ⟨hg, he⟩
  have h1 := read_enc i hg 20001 (by decide)
  rw [he, z_read] at h1
  have h2 := congrArg (fun x => x.2.2.2.2.2) (Option.some.inj h1)
  have h3 := hg.1 (⟨#[122]⟩ : ByteArray) (by simp only at h2; rw [← h2]; exact List.mem_cons_self)
  exact absurd h3 (by decide)
theorem leO {α : Type} {f : Nat → Option α} (hm : ∀ k, LeO (f k) (f (k + 1))) {k0 : Nat} {x : α} (h : f k0 = some x) : ∀ k, k0 ≤ k → f k = some x := by
  intro k hk
  induction k with
  | zero => obtain rfl : k0 = 0 := by omega
            exact h
  | succ k ih =>
    by_cases e : k0 = k + 1
    · rw [← e]; exact h
    · exact hm k x (ih (by omega))
theorem wakes_f (k : Nat) (hk : 20000 < k) : u9wakes.f k = some true := by
  have H1 := leO (f := fun k => u9Hash.f k 1) (fun k => u9Hash.mono 1 k) h1_f k (by omega)
  have H2 := leO (f := fun k => u9Hash.f k 2) (fun k => u9Hash.mono 2 k) h2_f k (by omega)
  have E1 := enc_f i1 (by decide) k (by have : i1.p.size = 3 := rfl; omega)
  have E2 := enc_f i2 (by decide) k (by have : i2.p.size = 0 := rfl; omega)
  have E3 := enc_f i3 (by decide) k (by have : i3.p.size = 0 := rfl; omega)
  have E4 := hash_f i4 (by decide) k (by have : i4.p.size = 0 := rfl; omega)
  have D2 := dec_pos (s := encB i2) ⟨g2, rfl⟩ (by rw [e2]; decide) k hk
  have DZ := dec_neg (s := z) z_no (by decide) k hk
  unfold NodE.encR at E1 E2 E3
  rw [if_pos g1] at E1
  rw [if_pos g2] at E2
  rw [if_neg g3] at E3
  unfold hashI at E4
  rw [if_pos g4, e4] at E4
  simp only [i1] at E1
  simp only [i2] at E2
  simp only [i3] at E3
  simp only [i4] at E4
  try dsimp only at H1 H2
  unfold u9wakes.f
  rw [E1, Option.bind_some, H1, Option.bind_some, H2, Option.bind_some, E2, Option.bind_some]
  dsimp only
  rw [show encB ⟨3, ⟨#[]⟩, false, ⟨#[]⟩, 32769, [H 1, H 2]⟩ = encB i2 from rfl, D2, Option.bind_some, Option.bind_some, E3, Option.bind_some, E4, Option.bind_some, show (⟨#[1, 0, 0, 122]⟩ : ByteArray) = z from rfl, DZ, Option.bind_some]
  have hof : digest_Of.f (⟨#[1, 0, 0]⟩ : ByteArray) = some (ofS ⟨#[1, 0, 0]⟩) := by unfold digest_Of.f; rw [if_pos (by decide)]; rfl
  have ee1 : (encB ⟨1, ⟨#[1, 2, 3]⟩, true, ⟨#[118]⟩, 0, []⟩).toList = ([1, 3, 18, 48, 1, 118] : List UInt8) := e1
  have ee2 : (encB ⟨3, ⟨#[]⟩, false, ⟨#[]⟩, 32769, [H 1, H 2]⟩).size = 68 := e2
  have ee2b : ((encB ⟨3, ⟨#[]⟩, false, ⟨#[]⟩, 32769, [H 1, H 2]⟩).extract 0 4).toList = ([3, 128, 1, 0] : List UInt8) := e2b
  simp only [tup, if_pos, ee1, ee2, ee2b, hof, Option.bind_some, It.zero, i2]
  rfl
end Go.Proofs.YtklakmooaffjpaaDoor.NodW
end

section
/-
  Is an Item too large? It always tells; where it is not, its parts are small.
-/
namespace Go.Proofs.YtklakmooaffjpaaDoor.NodX
open Go.RowKit Go.Proofs.YtklakmooaffjpaaDoorW.PrintWords Go.Proofs.YtklakmooaffjpaaDoorW.PrintLast Go.Proofs.YtklakmooaffjpaaDoorW.PrintMore Go.Proofs.YtklakmooaffjpaaDoor.PNod Go.Proofs.YtklakmooaffjpaaDoor.NibP Go.Proofs.YtklakmooaffjpaaDoor.NodP
set_option linter.unusedVariables false
theorem long_loop (l : List ByteArray) : ∀ (k acc i : Nat), i ≤ acc → acc ≤ 6001 → 3002 - acc < k → ∃ b, k9Long.l0 k l 3000 (acc : Int) (i : Int) = some b ∧ (b = false → l.length ≤ 3000)
  | 0, acc, i, h1, h2, h3 => by omega
  | k + 1, acc, i, h1, h2, h3 => by
    rw [k9Long.l0]
    by_cases ha : (i : Int) < (l.length : Int)
    · rw [if_pos ha]
      by_cases hb : (acc : Int) ≤ 3000
      · rw [if_pos hb, if_pos (by omega)]
        obtain ⟨q, hq, hq2⟩ : ∃ q : Nat, mn ((rdOf ByteArray.empty l (i : Int)).size : Int) 3000 = (q : Int) ∧ q ≤ 3000 := by
          unfold mn
          split
          · exact ⟨3000, rfl, by omega⟩
          · exact ⟨_, rfl, by omega⟩
        have w1 : wrap64 (1 + (q : Int)) = ((1 + q : Nat) : Int) := by rw [NibP.wr (by omega) (by omega)]; omega
        have w2 : wrap64 ((acc : Int) + ((1 + q : Nat) : Int)) = ((acc + (1 + q) : Nat) : Int) := by rw [NibP.wr (by omega) (by omega)]; omega
        have w3 : wrap64 ((i : Int) + 1) = ((i + 1 : Nat) : Int) := by rw [NibP.wr (by omega) (by omega)]; omega
        rw [hq, w1, w2, w3]
        exact long_loop l k (acc + (1 + q)) (i + 1) (by omega) (by omega) (by omega)
      · rw [if_neg hb]
        exact ⟨_, rfl, fun h => absurd h (by rw [decide_eq_true (by omega)]; decide)⟩
    · rw [if_neg ha]
      refine ⟨_, rfl, fun h => ?_⟩
      have := of_decide_eq_false h
      omega
theorem long_f (i : It) (k : Nat) (hk : 3002 < k) : ∃ b, u9Long.f k i.k i.p i.h i.v i.m i.l = some b ∧ (b = false → i.p.size ≤ 200 ∧ i.v.size ≤ 200 ∧ i.l.length ≤ 3000) := by
  unfold u9Long.f
  by_cases h1 : (i.p.size : Int) > 200
  · exact ⟨true, by rw [if_pos h1], fun h => by cases h⟩
  rw [if_neg h1]
  by_cases h2 : (i.v.size : Int) > 200
  · exact ⟨true, by rw [if_pos h2], fun h => by cases h⟩
  rw [if_neg h2]
  obtain ⟨b, hb, hf⟩ := long_loop i.l k 0 0 (Nat.le_refl _) (by omega) (by omega)
  refine ⟨b, ?_, fun h => ⟨by omega, by omega, hf h⟩⟩
  unfold k9Long.f
  rw [show ((0 : Nat) : Int) = 0 from rfl] at hb
  rw [hb]; rfl
end Go.Proofs.YtklakmooaffjpaaDoor.NodX
end

section
-- Written by a program of this session for this seat. Not trusted: Lean checks it.
namespace Go.Proofs.YtklakmooaffjpaaDoor.PNod
open Go.RowKit Go.Proofs.YtklakmooaffjpaaDoorW.PrintWords Go.Proofs.YtklakmooaffjpaaDoorW.PrintLast Go.Proofs.YtklakmooaffjpaaDoorW.PrintMore
attribute [local go_sem] max2_int min2_int max_two min_two max_three min_three max_four min_four   -- for this text's walks alone
set_option linter.unusedVariables false
set_option linter.unusedSimpArgs false
open Go.Proofs.YtklakmooaffjpaaDoor.HW Go.Proofs.YtklakmooaffjpaaDoor.DgsB

/-! ### k9Texts: function 32 -/
def k9Texts.l0 : Nat → List ByteArray → List ByteArray → Int → Option (Bool)
 | 0, _, _, _ => none
 | k + 1, x0, x1, x5 => if x5 < (x0.length : Int) then (if 0 ≤ x5 then (if x5 < (x1.length : Int) then (if (rdOf ByteArray.empty x0 x5).toList = (rdOf ByteArray.empty x1 x5).toList then (k9Texts.l0 k x0 x1 (wrap64 (x5 + 1))) else (some false)) else (none)) else (none)) else (some true)
def k9Texts.f (k : Nat) (l0 : List ByteArray) (l1 : List ByteArray) : Option (Bool) := if (l0.length : Int) = (l1.length : Int) then (k9Texts.l0 k l0 l1 0) else (some false)
set_option maxHeartbeats 8000000 in
set_option maxRecDepth 100000 in
theorem k9Texts.calls (k : Nat) (A0 : Option Addr) (c0 : Nat) (l0 : List ByteArray) (A1 : Option Addr) (c1 : Nat) (l1 : List ByteArray) (r : Bool) (w : World) (hr0 : Kd.C Kd.string w A0 l0.length l0) (hc0 : l0.length ≤ c0) (hr1 : Kd.C Kd.string w A1 l1.length l1) (hc1 : l1.length ≤ c1) (h : k9Texts.f k l0 l1 = some r) :
  Calls Tryd.prog 32 #[.slice A0 l0.length c0, .slice A1 l1.length c1] w fun e w' => e = .returned (.bool r) ∧ Drawn0 w w' := by
 have HR0 := A0_.mk hr0
 have HC0 := A0_.mk hc0
 clear hr0 hc0
 have HR1 := A0_.mk hr1
 have HC1 := A0_.mk hc1
 clear hr1 hc1
 have H : (if (l0.length : Int) = (l1.length : Int) then (k9Texts.l0 k l0 l1 0) else (some false)) = some r := h
 clear h
 by_cases c3 : (l0.length : Int) = (l1.length : Int)
 ·rw [if_pos c3] at H
  have c3b0 : ((l0.length : Int) == (l1.length : Int)) = true := beq_iff_eq.mpr c3
  have c3b1 : ((l0.length : Int) != (l1.length : Int)) = false := bne_eq_false_iff_eq.mpr c3
  have c3b2 : (l0.length == l1.length) = true := by first | simpa using c3 | (simp at c3 ⊢; omega)
  clear c3
  have H' := A0_.mk H
  clear H
  go_enter Tryd.func32, Tryd.ntmps32
  go_wp2
  repeat (go_quiet (fail); try go_wp2)
  go_loopg [5] k (fun kq v5 w' => ∃ (x5_1 : Int), v5 = .int .i64 x5_1 ∧ A0_ (k9Texts.l0 kq l0 l1 x5_1 = some r) ∧ A0_ (kq ≤ k) ∧ Drawn0 w w')
  case atStart => exact ⟨(0), (by first | rfl | (simp; done) | (simp [*]; done)), H', ⟨Nat.le_refl _⟩, by repeat (first | exact Drawn0.refl _ | apply Drawn0.step)⟩
  case round =>
   clear H'
   try clear c1
   try clear p2
   try clear c3
   try clear c3b0
   try clear c3b1
   try clear c3b2
   obtain ⟨x5_1, rfl, HA, HK1, ⟨m1, rfl⟩⟩ := hrel
   cases gk with
   | zero => exact absurd HA.out (by simp [k9Texts.l0])
   | succ k1 =>
    have H := HA.out
    clear HA
    simp only [k9Texts.l0] at H
    by_cases c4 : x5_1 < (l0.length : Int)
    ·rw [if_pos c4] at H
     have c4b0 : decide (x5_1 < (l0.length : Int)) = true := decide_eq_true c4
     clear c4
     by_cases c5 : 0 ≤ x5_1
     rotate_left
     ·rw [if_neg c5] at H
      exact absurd H (by simp)
     rw [if_pos c5] at H
     have c5b0 : decide (0 ≤ x5_1) = true := decide_eq_true c5
     clear c5
     by_cases c6 : x5_1 < (l1.length : Int)
     rotate_left
     ·rw [if_neg c6] at H
      exact absurd H (by simp)
     rw [if_pos c6] at H
     have c6b0 : decide (x5_1 < (l1.length : Int)) = true := decide_eq_true c6
     clear c6
     by_cases c7 : (rdOf ByteArray.empty l0 x5_1).toList = (rdOf ByteArray.empty l1 x5_1).toList
     ·rw [if_pos c7] at H
      have c7b0 : ((rdOf ByteArray.empty l0 x5_1).toList == (rdOf ByteArray.empty l1 x5_1).toList) = true := beq_iff_eq.mpr c7
      have c7b1 : ((rdOf ByteArray.empty l0 x5_1).toList != (rdOf ByteArray.empty l1 x5_1).toList) = false := bne_eq_false_iff_eq.mpr c7
      clear c7
      have H' := A0_.mk H
      clear H
      have p304 : 0 ≤ (x5_1 : Int) := SQ.da
      have q304 : x5_1 < (l0.length : Int) := SQ.da
      obtain ⟨ad304, e304, hx304_0⟩ := Kd.at_string HR0.out x5_1 p304 q304
      cases e304
      replace p304 := eq_true p304
      replace q304 := eq_true q304
      have p305 : 0 ≤ (x5_1 : Int) := SQ.da
      have q305 : x5_1 < (l1.length : Int) := SQ.da
      obtain ⟨ad305, e305, hx305_0⟩ := Kd.at_string HR1.out x5_1 p305 q305
      cases e305
      replace p305 := eq_true p305
      replace q305 := eq_true q305
      go_wp2
      repeat (go_quiet (fail); try go_wp2)
      go_roundg k1
      case measure => have := HK1.out; omega
      case rel => exact ⟨(wrap64 (x5_1 + 1)), (by first | rfl | (simp; done) | (simp [*]; done)), H', ⟨by have := HK1.out; omega⟩, by repeat (first | exact Drawn0.refl _ | apply Drawn0.step)⟩
     ·rw [if_neg c7] at H
      have c7b0 : ((rdOf ByteArray.empty l0 x5_1).toList == (rdOf ByteArray.empty l1 x5_1).toList) = false := beq_eq_false_iff_ne.mpr c7
      have c7b1 : ((rdOf ByteArray.empty l0 x5_1).toList != (rdOf ByteArray.empty l1 x5_1).toList) = true := bne_iff_ne.mpr c7
      obtain rfl := Option.some.inj H
      have p304 : 0 ≤ (x5_1 : Int) := SQ.da
      have q304 : x5_1 < (l0.length : Int) := SQ.da
      obtain ⟨ad304, e304, hx304_0⟩ := Kd.at_string HR0.out x5_1 p304 q304
      cases e304
      replace p304 := eq_true p304
      replace q304 := eq_true q304
      have p305 : 0 ≤ (x5_1 : Int) := SQ.da
      have q305 : x5_1 < (l1.length : Int) := SQ.da
      obtain ⟨ad305, e305, hx305_0⟩ := Kd.at_string HR1.out x5_1 p305 q305
      cases e305
      replace p305 := eq_true p305
      replace q305 := eq_true q305
      go_wp2
      repeat (go_quiet (fail); try go_wp2)
      go_ret
      exact ⟨by first | rfl | (simp; done) | (simp [*]; done), by repeat (first | exact Drawn0.refl _ | apply Drawn0.step)⟩
    ·rw [if_neg c4] at H
     have c4b0 : decide (x5_1 < (l0.length : Int)) = false := decide_eq_false c4
     clear c4
     obtain rfl := Option.some.inj H
     go_wp2
     repeat (go_quiet (fail); try go_wp2)
     go_ret
     exact ⟨by first | rfl | (simp; done) | (simp [*]; done), by repeat (first | exact Drawn0.refl _ | apply Drawn0.step)⟩
 ·rw [if_neg c3] at H
  have c3b0 : ((l0.length : Int) == (l1.length : Int)) = false := beq_eq_false_iff_ne.mpr c3
  have c3b1 : ((l0.length : Int) != (l1.length : Int)) = true := bne_iff_ne.mpr c3
  have c3b2 : (l0.length == l1.length) = false := by first | simpa using c3 | (simp at c3 ⊢; omega)
  obtain rfl := Option.some.inj H
  go_enter Tryd.func32, Tryd.ntmps32
  go_wp2
  repeat (go_quiet (fail); try go_wp2)
  go_ret
  exact ⟨by first | rfl | (simp; done) | (simp [*]; done), by repeat (first | exact Drawn0.refl _ | apply Drawn0.step)⟩

/-! ### k9Item: function 17 -/
def k9Item.f (k : Nat) (a0_0 : Int) (a0_1 : ByteArray) (a0_2 : Bool) (a0_3 : ByteArray) (a0_4 : Int) (l0_5 : List ByteArray) (a1_0 : Int) (a1_1 : ByteArray) (a1_2 : Bool) (a1_3 : ByteArray) (a1_4 : Int) (l1_5 : List ByteArray) : Option (Bool) := if a0_0 = a1_0 then (if a0_1.toList = a1_1.toList then (if (a0_2 == a1_2) = true then (if a0_3.toList = a1_3.toList then (if a0_4 = a1_4 then ((k9Texts.f k l0_5 l1_5).bind fun t308 => (some t308)) else (some false)) else (some false)) else (some false)) else (some false)) else (some false)
set_option maxHeartbeats 8000000 in
set_option maxRecDepth 100000 in
theorem k9Item.calls (k : Nat) (a0_0 : Int) (a0_1 : ByteArray) (a0_2 : Bool) (a0_3 : ByteArray) (a0_4 : Int) (A0_5 : Option Addr) (c0_5 : Nat) (l0_5 : List ByteArray) (a1_0 : Int) (a1_1 : ByteArray) (a1_2 : Bool) (a1_3 : ByteArray) (a1_4 : Int) (A1_5 : Option Addr) (c1_5 : Nat) (l1_5 : List ByteArray) (r : Bool) (w : World) (hr0_5 : Kd.C Kd.string w A0_5 l0_5.length l0_5) (hc0_5 : l0_5.length ≤ c0_5) (hr1_5 : Kd.C Kd.string w A1_5 l1_5.length l1_5) (hc1_5 : l1_5.length ≤ c1_5) (h : k9Item.f k a0_0 a0_1 a0_2 a0_3 a0_4 l0_5 a1_0 a1_1 a1_2 a1_3 a1_4 l1_5 = some r) :
  Calls Tryd.prog 17 #[.agg #[.int .i64 a0_0, .string a0_1, .bool a0_2, .string a0_3, .int .i64 a0_4, .slice A0_5 l0_5.length c0_5], .agg #[.int .i64 a1_0, .string a1_1, .bool a1_2, .string a1_3, .int .i64 a1_4, .slice A1_5 l1_5.length c1_5]] w fun e w' => e = .returned (.bool r) ∧ Below w.heap.size w w' := by
 have hu24 := Tryd.underlying24
 have HR0_5 := A0_.mk hr0_5
 have HC0_5 := A0_.mk hc0_5
 clear hr0_5 hc0_5
 have HR1_5 := A0_.mk hr1_5
 have HC1_5 := A0_.mk hc1_5
 clear hr1_5 hc1_5
 have HB := A0_.mk (Below.refl w.heap.size w)
 have H : (if a0_0 = a1_0 then (if a0_1.toList = a1_1.toList then (if (a0_2 == a1_2) = true then (if a0_3.toList = a1_3.toList then (if a0_4 = a1_4 then ((k9Texts.f k l0_5 l1_5).bind fun t308 => (some t308)) else (some false)) else (some false)) else (some false)) else (some false)) else (some false)) = some r := h
 clear h
 by_cases c3 : a0_0 = a1_0
 ·rw [if_pos c3] at H
  have c3b0 : (a0_0 == a1_0) = true := beq_iff_eq.mpr c3
  have c3b1 : (a0_0 != a1_0) = false := bne_eq_false_iff_eq.mpr c3
  clear c3
  by_cases c4 : a0_1.toList = a1_1.toList
  ·rw [if_pos c4] at H
   have c4b0 : (a0_1.toList == a1_1.toList) = true := beq_iff_eq.mpr c4
   have c4b1 : (a0_1.toList != a1_1.toList) = false := bne_eq_false_iff_eq.mpr c4
   clear c4
   by_cases c5 : (a0_2 == a1_2) = true
   ·rw [if_pos c5] at H
    have c5b0 : (a0_2 == a1_2) = true := c5
    (try (have c5b1 : decide (a0_2 = a1_2) = true := by simpa using c5))
    (try (have c5b2 : (a0_2 == a1_2) = true := by simpa using c5))
    clear c5
    by_cases c6 : a0_3.toList = a1_3.toList
    ·rw [if_pos c6] at H
     have c6b0 : (a0_3.toList == a1_3.toList) = true := beq_iff_eq.mpr c6
     have c6b1 : (a0_3.toList != a1_3.toList) = false := bne_eq_false_iff_eq.mpr c6
     clear c6
     by_cases c7 : a0_4 = a1_4
     ·rw [if_pos c7] at H
      have c7b0 : (a0_4 == a1_4) = true := beq_iff_eq.mpr c7
      have c7b1 : (a0_4 != a1_4) = false := bne_eq_false_iff_eq.mpr c7
      clear c7
      replace H := Option.bind_eq_some_iff.mp H
      obtain ⟨t308, A80, H⟩ := H
      try dsimp only at H
      have A8 := A0_.mk A80
      clear A80
      obtain rfl := Option.some.inj H
      go_enter Tryd.func17, Tryd.ntmps17
      go_wp2_with (first | ((with_reducible refine gD (N := 2) rfl ?_); refine xE ?hg (N := 2) ?hd (cs := #[.int .i64 a0_0, .string a0_1, .bool a0_2, .string a0_3, .int .i64 a0_4, .slice A0_5 l0_5.length c0_5]) (t := 24) ?hr ?_; (case hd => rfl); (case hg => rfl); (case hr => first | (go_simp; done) | (go_simp; rfl)); intro gb306 hg w9 hbox hb; have BK306 := A0_.mk (hbox); have GW306 := A0_.mk ((by rw [hg]; exact (wZ SQ.bw) : w.heap.size ≤ gb306)); have GE306 := A0_.mk ((by rw [hg]; exact (wZ SQ.bw) : w.heap.size ≤ gb306)); replace HB := A0_.mk (wT SQ.bw hb); clear hb hbox hg) | ((with_reducible refine gD (N := 3) rfl ?_); refine xE ?hg (N := 3) ?hd (cs := #[.int .i64 a1_0, .string a1_1, .bool a1_2, .string a1_3, .int .i64 a1_4, .slice A1_5 l1_5.length c1_5]) (t := 24) ?hr ?_; (case hd => rfl); (case hg => rfl); (case hr => first | (go_simp; done) | (go_simp; rfl)); intro gb307 hg w10 hbox hb; have BK307 := A0_.mk (hbox); have GW307 := A0_.mk ((by rw [hg]; exact (wZ SQ.bw) : w.heap.size ≤ gb307)); have GE307 := A0_.mk ((by rw [hg]; exact (wZ SQ.bw) : w.heap.size ≤ gb307)); have NB306_307 := A0_.mk ((by rw [hg]; exact Nat.ne_of_lt (bL (g := gb306) SQ.kw) : gb306 ≠ gb307)); have NB307_306 := A0_.mk ((by rw [hg]; exact Nat.ne_of_gt (bL (g := gb306) SQ.kw) : gb307 ≠ gb306)); replace BK306 := A0_.mk (bB (g := gb306) SQ.kw hb); replace HB := A0_.mk (wT SQ.bw hb); clear hb hbox hg; have hnb11 := NB306_307.out; have hnc11 := NB307_306.out; obtain ⟨hcz12_0, hcz12_1, hcz12_2, hcz12_3, hcz12_4, hcz12_5, hfz12_0, hfz12_1, hfz12_2, hfz12_3, hfz12_4, hfz12_5⟩ := SQ.cs6 BK306.out; obtain ⟨hcz13_0, hcz13_1, hcz13_2, hcz13_3, hcz13_4, hcz13_5, hfz13_0, hfz13_1, hfz13_2, hfz13_3, hfz13_4, hfz13_5⟩ := SQ.cs6 BK307.out) | (go_at_call 32; (with_reducible refine (k9Texts.calls k _ _ l0_5 _ _ l1_5 t308 _ ?side1 ?side2 ?side3 ?side4 A8.out).mono ?_); (case side1 => repeat (first | exact (Kd.C_below HR0_5.out HB.out) | (with_reducible refine Kd.C_alloc ?_ _) | (with_reducible refine Kd.C_drewN ?_ _) | (with_reducible refine Kd.C_drew ?_))); (case side2 => exact HC0_5.out); (case side3 => repeat (first | exact (Kd.C_below HR1_5.out HB.out) | (with_reducible refine Kd.C_alloc ?_ _) | (with_reducible refine Kd.C_drewN ?_ _) | (with_reducible refine Kd.C_drew ?_))); (case side4 => exact HC1_5.out); rintro e w' ⟨rfl, ⟨nd, rfl⟩⟩))
      go_ret
      exact ⟨SQ.er, SQ.bw⟩
     ·rw [if_neg c7] at H
      have c7b0 : (a0_4 == a1_4) = false := beq_eq_false_iff_ne.mpr c7
      have c7b1 : (a0_4 != a1_4) = true := bne_iff_ne.mpr c7
      obtain rfl := Option.some.inj H
      go_enter Tryd.func17, Tryd.ntmps17
      go_wp2_with (first | ((with_reducible refine gD (N := 2) rfl ?_); refine xE ?hg (N := 2) ?hd (cs := #[.int .i64 a0_0, .string a0_1, .bool a0_2, .string a0_3, .int .i64 a0_4, .slice A0_5 l0_5.length c0_5]) (t := 24) ?hr ?_; (case hd => rfl); (case hg => rfl); (case hr => first | (go_simp; done) | (go_simp; rfl)); intro gb306 hg w14 hbox hb; have BK306 := A0_.mk (hbox); have GW306 := A0_.mk ((by rw [hg]; exact (wZ SQ.bw) : w.heap.size ≤ gb306)); have GE306 := A0_.mk ((by rw [hg]; exact (wZ SQ.bw) : w.heap.size ≤ gb306)); replace HB := A0_.mk (wT SQ.bw hb); clear hb hbox hg) | ((with_reducible refine gD (N := 3) rfl ?_); refine xE ?hg (N := 3) ?hd (cs := #[.int .i64 a1_0, .string a1_1, .bool a1_2, .string a1_3, .int .i64 a1_4, .slice A1_5 l1_5.length c1_5]) (t := 24) ?hr ?_; (case hd => rfl); (case hg => rfl); (case hr => first | (go_simp; done) | (go_simp; rfl)); intro gb307 hg w15 hbox hb; have BK307 := A0_.mk (hbox); have GW307 := A0_.mk ((by rw [hg]; exact (wZ SQ.bw) : w.heap.size ≤ gb307)); have GE307 := A0_.mk ((by rw [hg]; exact (wZ SQ.bw) : w.heap.size ≤ gb307)); have NB306_307 := A0_.mk ((by rw [hg]; exact Nat.ne_of_lt (bL (g := gb306) SQ.kw) : gb306 ≠ gb307)); have NB307_306 := A0_.mk ((by rw [hg]; exact Nat.ne_of_gt (bL (g := gb306) SQ.kw) : gb307 ≠ gb306)); replace BK306 := A0_.mk (bB (g := gb306) SQ.kw hb); replace HB := A0_.mk (wT SQ.bw hb); clear hb hbox hg; have hnb16 := NB306_307.out; have hnc16 := NB307_306.out; obtain ⟨hcz17_0, hcz17_1, hcz17_2, hcz17_3, hcz17_4, hcz17_5, hfz17_0, hfz17_1, hfz17_2, hfz17_3, hfz17_4, hfz17_5⟩ := SQ.cs6 BK306.out; obtain ⟨hcz18_0, hcz18_1, hcz18_2, hcz18_3, hcz18_4, hcz18_5, hfz18_0, hfz18_1, hfz18_2, hfz18_3, hfz18_4, hfz18_5⟩ := SQ.cs6 BK307.out))
      go_ret
      exact ⟨SQ.er, SQ.bw⟩
    ·rw [if_neg c6] at H
     have c6b0 : (a0_3.toList == a1_3.toList) = false := beq_eq_false_iff_ne.mpr c6
     have c6b1 : (a0_3.toList != a1_3.toList) = true := bne_iff_ne.mpr c6
     obtain rfl := Option.some.inj H
     go_enter Tryd.func17, Tryd.ntmps17
     go_wp2_with (first | ((with_reducible refine gD (N := 2) rfl ?_); refine xE ?hg (N := 2) ?hd (cs := #[.int .i64 a0_0, .string a0_1, .bool a0_2, .string a0_3, .int .i64 a0_4, .slice A0_5 l0_5.length c0_5]) (t := 24) ?hr ?_; (case hd => rfl); (case hg => rfl); (case hr => first | (go_simp; done) | (go_simp; rfl)); intro gb306 hg w19 hbox hb; have BK306 := A0_.mk (hbox); have GW306 := A0_.mk ((by rw [hg]; exact (wZ SQ.bw) : w.heap.size ≤ gb306)); have GE306 := A0_.mk ((by rw [hg]; exact (wZ SQ.bw) : w.heap.size ≤ gb306)); replace HB := A0_.mk (wT SQ.bw hb); clear hb hbox hg) | ((with_reducible refine gD (N := 3) rfl ?_); refine xE ?hg (N := 3) ?hd (cs := #[.int .i64 a1_0, .string a1_1, .bool a1_2, .string a1_3, .int .i64 a1_4, .slice A1_5 l1_5.length c1_5]) (t := 24) ?hr ?_; (case hd => rfl); (case hg => rfl); (case hr => first | (go_simp; done) | (go_simp; rfl)); intro gb307 hg w20 hbox hb; have BK307 := A0_.mk (hbox); have GW307 := A0_.mk ((by rw [hg]; exact (wZ SQ.bw) : w.heap.size ≤ gb307)); have GE307 := A0_.mk ((by rw [hg]; exact (wZ SQ.bw) : w.heap.size ≤ gb307)); have NB306_307 := A0_.mk ((by rw [hg]; exact Nat.ne_of_lt (bL (g := gb306) SQ.kw) : gb306 ≠ gb307)); have NB307_306 := A0_.mk ((by rw [hg]; exact Nat.ne_of_gt (bL (g := gb306) SQ.kw) : gb307 ≠ gb306)); replace BK306 := A0_.mk (bB (g := gb306) SQ.kw hb); replace HB := A0_.mk (wT SQ.bw hb); clear hb hbox hg; have hnb21 := NB306_307.out; have hnc21 := NB307_306.out; obtain ⟨hcz22_0, hcz22_1, hcz22_2, hcz22_3, hcz22_4, hcz22_5, hfz22_0, hfz22_1, hfz22_2, hfz22_3, hfz22_4, hfz22_5⟩ := SQ.cs6 BK306.out; obtain ⟨hcz23_0, hcz23_1, hcz23_2, hcz23_3, hcz23_4, hcz23_5, hfz23_0, hfz23_1, hfz23_2, hfz23_3, hfz23_4, hfz23_5⟩ := SQ.cs6 BK307.out))
     go_ret
     exact ⟨SQ.er, SQ.bw⟩
   ·rw [if_neg c5] at H
    have c5b0 : (a0_2 == a1_2) = false := by simpa using c5
    (try (have c5b1 : decide (a0_2 = a1_2) = false := by simpa using c5))
    (try (have c5b2 : (a0_2 == a1_2) = false := by simpa using c5))
    (try (have c5b3 : ¬ (a0_2 = a1_2) := by simpa using c5))
    clear c5
    obtain rfl := Option.some.inj H
    go_enter Tryd.func17, Tryd.ntmps17
    go_wp2_with (first | ((with_reducible refine gD (N := 2) rfl ?_); refine xE ?hg (N := 2) ?hd (cs := #[.int .i64 a0_0, .string a0_1, .bool a0_2, .string a0_3, .int .i64 a0_4, .slice A0_5 l0_5.length c0_5]) (t := 24) ?hr ?_; (case hd => rfl); (case hg => rfl); (case hr => first | (go_simp; done) | (go_simp; rfl)); intro gb306 hg w24 hbox hb; have BK306 := A0_.mk (hbox); have GW306 := A0_.mk ((by rw [hg]; exact (wZ SQ.bw) : w.heap.size ≤ gb306)); have GE306 := A0_.mk ((by rw [hg]; exact (wZ SQ.bw) : w.heap.size ≤ gb306)); replace HB := A0_.mk (wT SQ.bw hb); clear hb hbox hg) | ((with_reducible refine gD (N := 3) rfl ?_); refine xE ?hg (N := 3) ?hd (cs := #[.int .i64 a1_0, .string a1_1, .bool a1_2, .string a1_3, .int .i64 a1_4, .slice A1_5 l1_5.length c1_5]) (t := 24) ?hr ?_; (case hd => rfl); (case hg => rfl); (case hr => first | (go_simp; done) | (go_simp; rfl)); intro gb307 hg w25 hbox hb; have BK307 := A0_.mk (hbox); have GW307 := A0_.mk ((by rw [hg]; exact (wZ SQ.bw) : w.heap.size ≤ gb307)); have GE307 := A0_.mk ((by rw [hg]; exact (wZ SQ.bw) : w.heap.size ≤ gb307)); have NB306_307 := A0_.mk ((by rw [hg]; exact Nat.ne_of_lt (bL (g := gb306) SQ.kw) : gb306 ≠ gb307)); have NB307_306 := A0_.mk ((by rw [hg]; exact Nat.ne_of_gt (bL (g := gb306) SQ.kw) : gb307 ≠ gb306)); replace BK306 := A0_.mk (bB (g := gb306) SQ.kw hb); replace HB := A0_.mk (wT SQ.bw hb); clear hb hbox hg; have hnb26 := NB306_307.out; have hnc26 := NB307_306.out; obtain ⟨hcz27_0, hcz27_1, hcz27_2, hcz27_3, hcz27_4, hcz27_5, hfz27_0, hfz27_1, hfz27_2, hfz27_3, hfz27_4, hfz27_5⟩ := SQ.cs6 BK306.out; obtain ⟨hcz28_0, hcz28_1, hcz28_2, hcz28_3, hcz28_4, hcz28_5, hfz28_0, hfz28_1, hfz28_2, hfz28_3, hfz28_4, hfz28_5⟩ := SQ.cs6 BK307.out))
    go_ret
    exact ⟨SQ.er, SQ.bw⟩
  ·rw [if_neg c4] at H
   have c4b0 : (a0_1.toList == a1_1.toList) = false := beq_eq_false_iff_ne.mpr c4
   have c4b1 : (a0_1.toList != a1_1.toList) = true := bne_iff_ne.mpr c4
   obtain rfl := Option.some.inj H
   go_enter Tryd.func17, Tryd.ntmps17
   go_wp2_with (first | ((with_reducible refine gD (N := 2) rfl ?_); refine xE ?hg (N := 2) ?hd (cs := #[.int .i64 a0_0, .string a0_1, .bool a0_2, .string a0_3, .int .i64 a0_4, .slice A0_5 l0_5.length c0_5]) (t := 24) ?hr ?_; (case hd => rfl); (case hg => rfl); (case hr => first | (go_simp; done) | (go_simp; rfl)); intro gb306 hg w29 hbox hb; have BK306 := A0_.mk (hbox); have GW306 := A0_.mk ((by rw [hg]; exact (wZ SQ.bw) : w.heap.size ≤ gb306)); have GE306 := A0_.mk ((by rw [hg]; exact (wZ SQ.bw) : w.heap.size ≤ gb306)); replace HB := A0_.mk (wT SQ.bw hb); clear hb hbox hg) | ((with_reducible refine gD (N := 3) rfl ?_); refine xE ?hg (N := 3) ?hd (cs := #[.int .i64 a1_0, .string a1_1, .bool a1_2, .string a1_3, .int .i64 a1_4, .slice A1_5 l1_5.length c1_5]) (t := 24) ?hr ?_; (case hd => rfl); (case hg => rfl); (case hr => first | (go_simp; done) | (go_simp; rfl)); intro gb307 hg w30 hbox hb; have BK307 := A0_.mk (hbox); have GW307 := A0_.mk ((by rw [hg]; exact (wZ SQ.bw) : w.heap.size ≤ gb307)); have GE307 := A0_.mk ((by rw [hg]; exact (wZ SQ.bw) : w.heap.size ≤ gb307)); have NB306_307 := A0_.mk ((by rw [hg]; exact Nat.ne_of_lt (bL (g := gb306) SQ.kw) : gb306 ≠ gb307)); have NB307_306 := A0_.mk ((by rw [hg]; exact Nat.ne_of_gt (bL (g := gb306) SQ.kw) : gb307 ≠ gb306)); replace BK306 := A0_.mk (bB (g := gb306) SQ.kw hb); replace HB := A0_.mk (wT SQ.bw hb); clear hb hbox hg; have hnb31 := NB306_307.out; have hnc31 := NB307_306.out; obtain ⟨hcz32_0, hcz32_1, hcz32_2, hcz32_3, hcz32_4, hcz32_5, hfz32_0, hfz32_1, hfz32_2, hfz32_3, hfz32_4, hfz32_5⟩ := SQ.cs6 BK306.out; obtain ⟨hcz33_0, hcz33_1, hcz33_2, hcz33_3, hcz33_4, hcz33_5, hfz33_0, hfz33_1, hfz33_2, hfz33_3, hfz33_4, hfz33_5⟩ := SQ.cs6 BK307.out))
   go_ret
   exact ⟨SQ.er, SQ.bw⟩
 ·rw [if_neg c3] at H
  have c3b0 : (a0_0 == a1_0) = false := beq_eq_false_iff_ne.mpr c3
  have c3b1 : (a0_0 != a1_0) = true := bne_iff_ne.mpr c3
  obtain rfl := Option.some.inj H
  go_enter Tryd.func17, Tryd.ntmps17
  go_wp2_with (first | ((with_reducible refine gD (N := 2) rfl ?_); refine xE ?hg (N := 2) ?hd (cs := #[.int .i64 a0_0, .string a0_1, .bool a0_2, .string a0_3, .int .i64 a0_4, .slice A0_5 l0_5.length c0_5]) (t := 24) ?hr ?_; (case hd => rfl); (case hg => rfl); (case hr => first | (go_simp; done) | (go_simp; rfl)); intro gb306 hg w34 hbox hb; have BK306 := A0_.mk (hbox); have GW306 := A0_.mk ((by rw [hg]; exact (wZ SQ.bw) : w.heap.size ≤ gb306)); have GE306 := A0_.mk ((by rw [hg]; exact (wZ SQ.bw) : w.heap.size ≤ gb306)); replace HB := A0_.mk (wT SQ.bw hb); clear hb hbox hg) | ((with_reducible refine gD (N := 3) rfl ?_); refine xE ?hg (N := 3) ?hd (cs := #[.int .i64 a1_0, .string a1_1, .bool a1_2, .string a1_3, .int .i64 a1_4, .slice A1_5 l1_5.length c1_5]) (t := 24) ?hr ?_; (case hd => rfl); (case hg => rfl); (case hr => first | (go_simp; done) | (go_simp; rfl)); intro gb307 hg w35 hbox hb; have BK307 := A0_.mk (hbox); have GW307 := A0_.mk ((by rw [hg]; exact (wZ SQ.bw) : w.heap.size ≤ gb307)); have GE307 := A0_.mk ((by rw [hg]; exact (wZ SQ.bw) : w.heap.size ≤ gb307)); have NB306_307 := A0_.mk ((by rw [hg]; exact Nat.ne_of_lt (bL (g := gb306) SQ.kw) : gb306 ≠ gb307)); have NB307_306 := A0_.mk ((by rw [hg]; exact Nat.ne_of_gt (bL (g := gb306) SQ.kw) : gb307 ≠ gb306)); replace BK306 := A0_.mk (bB (g := gb306) SQ.kw hb); replace HB := A0_.mk (wT SQ.bw hb); clear hb hbox hg; have hnb36 := NB306_307.out; have hnc36 := NB307_306.out; obtain ⟨hcz37_0, hcz37_1, hcz37_2, hcz37_3, hcz37_4, hcz37_5, hfz37_0, hfz37_1, hfz37_2, hfz37_3, hfz37_4, hfz37_5⟩ := SQ.cs6 BK306.out; obtain ⟨hcz38_0, hcz38_1, hcz38_2, hcz38_3, hcz38_4, hcz38_5, hfz38_0, hfz38_1, hfz38_2, hfz38_3, hfz38_4, hfz38_5⟩ := SQ.cs6 BK307.out))
  go_ret
  exact ⟨SQ.er, SQ.bw⟩

end Go.Proofs.YtklakmooaffjpaaDoor.PNod
end
