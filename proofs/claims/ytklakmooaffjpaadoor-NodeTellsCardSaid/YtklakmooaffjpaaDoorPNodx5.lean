import Derived.Test.YtklakmooaffjpaaDoorNodI
import Derived.Test.YtklakmooaffjpaaDoorSQ
import Derived.Test.YtklakmooaffjpaaDoorPNodx0
import Derived.Test.YtklakmooaffjpaaDoorPNodx4
section
/-
  The reader reads something of any text.
-/
namespace Go.Proofs.YtklakmooaffjpaaDoor.NodJ
open Go.RowKit Go.Proofs.YtklakmooaffjpaaDoorW.PrintWords Go.Proofs.YtklakmooaffjpaaDoorW.PrintLast Go.Proofs.YtklakmooaffjpaaDoorW.PrintMore Go.Proofs.YtklakmooaffjpaaDoor.PNor Go.Proofs.YtklakmooaffjpaaDoor.NibP Go.Proofs.YtklakmooaffjpaaDoor.NodO Go.Proofs.YtklakmooaffjpaaDoor.NodP Go.Proofs.YtklakmooaffjpaaDoor.NodE Go.Proofs.YtklakmooaffjpaaDoor.NodG Go.Proofs.YtklakmooaffjpaaDoor.NodI
set_option linter.unusedVariables false
theorem split_at (s : ByteArray) (n : Nat) (h : n ≤ s.size) : ∃ a b, s = a ++ b ∧ a.size = n := by
  refine ⟨s.extract 0 n, s.extract n s.size, ?_, by rw [ByteArray.size_extract]; omega⟩
  apply bytes_inj
  rw [bytes_app, bytes_extract, bytes_extract, List.drop_zero, ← NibP.len_bytesOf s, List.take_length, List.take_append_drop]
theorem take_tot (s : ByteArray) (n : Int) (h : 0 ≤ n) : ∃ a b, n9take.f s n = some (a, b) ∧ a.size + b.size = s.size ∧ (a.size : Int) ≤ n ∧ (0 < s.size → 0 < n → b.size < s.size) := by
  by_cases hn : n ≤ (s.size : Int)
  · obtain ⟨a, b, rfl, ha⟩ := split_at s n.toNat (by omega)
    refine ⟨a, b, take_app a b n (by omega), by rw [ByteArray.size_append], by omega, fun _ _ => by rw [ByteArray.size_append]; omega⟩
  · exact ⟨s, ⟨#[]⟩, take_all s n (by omega), Nat.add_zero _, by omega, fun h _ => h⟩
theorem number_tot (s : ByteArray) : ∃ (x : Int) (b : ByteArray), n9number.f s = some (x, b) ∧ 0 ≤ x ∧ x < 256 ∧ b.size ≤ s.size := by
  obtain ⟨a, b, h1, h2, h3, _⟩ := take_tot s 1 (by decide)
  unfold n9number.f
  rw [h1, Option.bind_some]
  by_cases he : a.toList = ([] : List UInt8)
  · exact ⟨0, b, by rw [if_pos he], by decide, by decide, by omega⟩
  · have h4 : 0 < a.size := by
      rcases Nat.eq_zero_or_pos a.size with h | h
      · exact absurd ((toList_nil a).2 (List.eq_nil_of_length_eq_zero (by rw [NibP.len_bytesOf]; exact h))) he
      · exact h
    have hr := bt_range a 0
    exact ⟨bt a 0, b, by dsimp only; rw [if_neg he, if_pos (by omega), NibP.wr hr.1 (by omega)], hr.1, by omega, by omega⟩
theorem path_tot (s : ByteArray) (hs : s.size ≤ 10000) (k : Nat) (hk : 20000 < k) : ∃ p b, n9path.f k s = some (p, b) ∧ p.size ≤ 16 ∧ b.size ≤ s.size := by
  unfold n9path.f
  rw [NibP.unp_f s (by omega) k (by omega), Option.bind_some]
  cases hu : (unpS s).2.2 with
  | true =>
    obtain ⟨n, hn1, hn2, hn3, _, hn5⟩ := NibL.unp_pack s hu
    obtain ⟨a, b, h1, h2, _⟩ := take_tot s (unpS s).2.1 (by rw [hn3]; omega)
    exact ⟨_, b, by rw [h1]; rfl, hn5, by omega⟩
  | false =>
    have e := NibL.unp_no s hu
    obtain ⟨a, b, h1, h2, _⟩ := take_tot s (unpS s).2.1 (by rw [e]; decide)
    exact ⟨_, b, by rw [h1]; rfl, by rw [e]; exact Nat.zero_le _, by omega⟩
theorem rest_tot : ∀ (n : Nat) (s : ByteArray) (acc : List ByteArray) (k : Nat), s.size ≤ n → n < k → acc.length + n ≤ 100000 → ∃ l, n9rest.l0 k acc s = some (l, (⟨#[]⟩ : ByteArray)) ∧ l.length ≤ acc.length + n
  | n, s, acc, 0, hs, hk, ha => by omega
  | n, s, acc, k + 1, hs, hk, ha => by
    rw [n9rest.l0]
    by_cases he : s.toList = ([] : List UInt8)
    · rw [if_pos he, nil_of he]; exact ⟨acc, rfl, by omega⟩
    · have h4 : 0 < s.size := by
        rcases Nat.eq_zero_or_pos s.size with h | h
        · exact absurd ((toList_nil s).2 (List.eq_nil_of_length_eq_zero (by rw [NibP.len_bytesOf]; exact h))) he
        · exact h
      obtain ⟨a, b, h1, h2, _, h5⟩ := take_tot s 32 (by decide)
      have h6 := h5 h4 (by decide)
      obtain ⟨m, rfl⟩ : ∃ m, n = m + 1 := ⟨n - 1, by omega⟩
      rw [if_neg he, h1, Option.bind_some, if_pos (by omega)]
      obtain ⟨l, h7, h8⟩ := rest_tot m b (acc ++ [a]) k (by omega) (by omega) (by simp; omega)
      exact ⟨l, h7, by simp at h8; omega⟩
theorem rest_f_tot (s : ByteArray) (hs : s.size ≤ 10000) (k : Nat) (hk : 20000 < k) : ∃ l, n9rest.f k s = some (l, (⟨#[]⟩ : ByteArray)) ∧ l.length ≤ 10000 := by
  obtain ⟨l, h1, h2⟩ := rest_tot 10000 s [] k hs (by omega) (by simp)
  exact ⟨l, h1, by simpa using h2⟩
theorem read_tot (s : ByteArray) (hs : s.size ≤ 10000) (k : Nat) (hk : 20000 < k) : ∃ i : It, NodR.read_f k s = some (i.k, i.p, i.h, i.v, i.m, i.l) ∧ i.p.size ≤ 16 ∧ i.l.length ≤ 10000 := by
  obtain ⟨a, s1, h1, a0, a1, z1⟩ := number_tot s
  unfold NodR.read_f
  rw [h1, Option.bind_some]
  dsimp only
  by_cases ka : a = 1
  · rw [if_pos ka]
    obtain ⟨p, s2, h2, hp, z2⟩ := path_tot s1 (by omega) k hk
    obtain ⟨c, s3, h3, c0, c1, z3⟩ := number_tot s2
    obtain ⟨v, s4, h4, z4, _⟩ := take_tot s3 c c0
    obtain ⟨l, h5, hl⟩ := rest_f_tot s4 (by omega) k hk
    exact ⟨⟨a, p, true, v, 0, l⟩, by rw [h2, Option.bind_some]; dsimp only; rw [h3, Option.bind_some]; dsimp only; rw [h4, Option.bind_some]; dsimp only; rw [h5]; rfl, hp, hl⟩
  rw [if_neg ka]
  by_cases kb : a = 2
  · rw [if_pos kb]
    obtain ⟨p, s2, h2, hp, z2⟩ := path_tot s1 (by omega) k hk
    obtain ⟨l, h5, hl⟩ := rest_f_tot s2 (by omega) k hk
    exact ⟨⟨a, p, false, ⟨#[]⟩, 1, l⟩, by rw [h2, Option.bind_some]; dsimp only; rw [h5]; rfl, hp, hl⟩
  rw [if_neg kb]
  by_cases kc : a = 3
  · rw [if_pos kc]
    obtain ⟨b, s2, h2, b0, b1, z2⟩ := number_tot s1
    obtain ⟨c, s3, h3, c0, c1, z3⟩ := number_tot s2
    obtain ⟨d, s4, h4, d0, d1, z4⟩ := number_tot s3
    rw [h2, Option.bind_some]; dsimp only
    rw [h3, Option.bind_some]; dsimp only
    rw [h4, Option.bind_some]; dsimp only
    by_cases kd : d = 1
    · rw [if_pos kd]
      obtain ⟨m, s5, h5, m0, m1, z5⟩ := number_tot s4
      obtain ⟨v, s6, h6, z6, _⟩ := take_tot s5 m m0
      obtain ⟨l, h7, hl⟩ := rest_f_tot s6 (by omega) k hk
      exact ⟨⟨a, ⟨#[]⟩, true, v, Go.bits .or .i64 (wrap64 (b * 256)) c, l⟩, by rw [h5, Option.bind_some]; dsimp only; rw [h6, Option.bind_some]; dsimp only; rw [h7]; rfl, Nat.zero_le _, hl⟩
    · rw [if_neg kd]
      obtain ⟨l, h7, hl⟩ := rest_f_tot s4 (by omega) k hk
      exact ⟨⟨a, ⟨#[]⟩, false, ⟨#[]⟩, Go.bits .or .i64 (wrap64 (b * 256)) c, l⟩, by rw [h7]; rfl, Nat.zero_le _, hl⟩
  rw [if_neg kc]
  obtain ⟨l, h7, hl⟩ := rest_f_tot s1 (by omega) k hk
  exact ⟨⟨a, ⟨#[]⟩, false, ⟨#[]⟩, 0, l⟩, by rw [h7]; rfl, Nat.zero_le _, hl⟩
end Go.Proofs.YtklakmooaffjpaaDoor.NodJ
end

section
-- Written by a program of this session for this seat. Not trusted: Lean checks it.
namespace Go.Proofs.YtklakmooaffjpaaDoor.PNod
open Go.RowKit Go.Proofs.YtklakmooaffjpaaDoorW.PrintWords Go.Proofs.YtklakmooaffjpaaDoorW.PrintLast Go.Proofs.YtklakmooaffjpaaDoorW.PrintMore
attribute [local go_sem] max2_int min2_int max_two min_two max_three min_three max_four min_four   -- for this text's walks alone
set_option linter.unusedVariables false
set_option linter.unusedSimpArgs false
open Go.Proofs.YtklakmooaffjpaaDoor.HW Go.Proofs.YtklakmooaffjpaaDoor.DgsB

/-! ### digest_Of: function 18 -/
def digest_Of.f (a0 : ByteArray) : Option (ByteArray) := if a0.size ≤ 1000000 then some (strOfNums (DgsO.ofB (bytesOf a0))) else none
theorem digest_Of.calls (a0 : ByteArray) (r : ByteArray) (w : World) (hG : Glob w) (h : digest_Of.f a0 = some r) :
  Calls Tryd.prog 18 #[.string a0] w fun e w' => e = .returned (.string r) ∧ Below w.heap.size w w' := by
 unfold digest_Of.f at h
 split at h
 ·rename_i hq
  rw [← Option.some.inj h]
  exact DgsO.of_c a0 hq w hG
 ·cases h


/-! ### node_Hash: function 10 -/
def node_Hash.f (k : Nat) (a0_0 : Int) (a0_1 : ByteArray) (a0_2 : Bool) (a0_3 : ByteArray) (a0_4 : Int) (l0_5 : List ByteArray) : Option (ByteArray × Bool) := (node_Encode.f k a0_0 a0_1 a0_2 a0_3 a0_4 l0_5).bind fun bt146 => (if bt146.2 = true then ((digest_Of.f bt146.1).bind fun t148 => (some (t148, true))) else (some ((⟨#[]⟩ : ByteArray), false)))
set_option maxHeartbeats 8000000 in
set_option maxRecDepth 100000 in
theorem node_Hash.calls (k : Nat) (a0_0 : Int) (a0_1 : ByteArray) (a0_2 : Bool) (a0_3 : ByteArray) (a0_4 : Int) (A0_5 : Option Addr) (c0_5 : Nat) (l0_5 : List ByteArray) (r1 : ByteArray) (r2 : Bool) (w : World) (hr0_5 : Kd.C Kd.string w A0_5 l0_5.length l0_5) (hc0_5 : l0_5.length ≤ c0_5) (hG : Glob w) (h : node_Hash.f k a0_0 a0_1 a0_2 a0_3 a0_4 l0_5 = some (r1, r2)) :
  Calls Tryd.prog 10 #[.agg #[.int .i64 a0_0, .string a0_1, .bool a0_2, .string a0_3, .int .i64 a0_4, .slice A0_5 l0_5.length c0_5]] w fun e w' => e = .returned (.tuple #[.string r1, .bool r2]) ∧ Below w.heap.size w w' := by
 have hu24 := Tryd.underlying24
 have HR0_5 := A0_.mk hr0_5
 have HC0_5 := A0_.mk hc0_5
 clear hr0_5 hc0_5
 have HG := A0_.mk hG
 clear hG
 have HB := A0_.mk (Below.refl w.heap.size w)
 have H : ((node_Encode.f k a0_0 a0_1 a0_2 a0_3 a0_4 l0_5).bind fun bt146 => (if bt146.2 = true then ((digest_Of.f bt146.1).bind fun t148 => (some (t148, true))) else (some ((⟨#[]⟩ : ByteArray), false)))) = some (r1, r2) := h
 clear h
 replace H := Option.bind_eq_some_iff.mp H
 obtain ⟨⟨t146, t147⟩, A20, H⟩ := H
 try dsimp only at H
 have A2 := A0_.mk A20
 clear A20
 by_cases c3 : t147 = true
 ·subst c3
  rw [if_pos rfl] at H
  replace H := Option.bind_eq_some_iff.mp H
  obtain ⟨t148, A40, H⟩ := H
  try dsimp only at H
  have A4 := A0_.mk A40
  clear A40
  simp only [Option.some.injEq, Prod.mk.injEq] at H
  obtain ⟨rfl, rfl⟩ := H
  go_enter Tryd.func10, Tryd.ntmps10
  go_wp2_with (first | ((with_reducible refine gD (N := 1) rfl ?_); refine xE ?hg (N := 1) ?hd (cs := #[.int .i64 a0_0, .string a0_1, .bool a0_2, .string a0_3, .int .i64 a0_4, .slice A0_5 l0_5.length c0_5]) (t := 24) ?hr ?_; (case hd => rfl); (case hg => rfl); (case hr => first | (go_simp; done) | (go_simp; rfl)); intro gb145 hg w5 hbox hb; have BK145 := A0_.mk (hbox); have GW145 := A0_.mk ((by rw [hg]; exact (wZ SQ.bw) : w.heap.size ≤ gb145)); have GE145 := A0_.mk ((by rw [hg]; exact (wZ SQ.bw) : w.heap.size ≤ gb145)); replace HB := A0_.mk (wT SQ.bw hb); clear hb hbox hg; obtain ⟨hcz6_0, hcz6_1, hcz6_2, hcz6_3, hcz6_4, hcz6_5, hfz6_0, hfz6_1, hfz6_2, hfz6_3, hfz6_4, hfz6_5⟩ := SQ.cs6 BK145.out) | ((with_reducible refine gC (f := 9) rfl ?_); refine gL (some 8) rfl rfl Tryd.func9 (by kernel_rfl) rfl #[.agg #[.int .i64 a0_0, .string a0_1, .bool a0_2, .string a0_3, .int .i64 a0_4, .slice A0_5 l0_5.length c0_5]] rfl SQ.sm ?_; (with_reducible refine (node_Encode.calls k a0_0 a0_1 a0_2 a0_3 a0_4 _ _ l0_5 t146 true _ ?side1 ?side2 A2.out).mono ?_); (case side1 => repeat (first | exact (Kd.C_below HR0_5.out HB.out) | (with_reducible refine Kd.C_alloc ?_ _) | (with_reducible refine Kd.C_drewN ?_ _) | (with_reducible refine Kd.C_drew ?_))); (case side2 => exact HC0_5.out); rintro e w7 ⟨rfl, hb⟩; refine ⟨_, rfl, ?_⟩; replace BK145 := A0_.mk (bB (g := gb145) SQ.kw hb); replace HB := A0_.mk (wT SQ.bw hb); clear hb) | ((with_reducible refine gC (f := 18) rfl ?_); refine gL (some 14) rfl rfl Tryd.func18 (by kernel_rfl) rfl #[.string t146] rfl SQ.sm ?_; (with_reducible refine (digest_Of.calls t146 t148 _ ?side1 A4.out).mono ?_); (case side1 => exact Glob.below HG.out SQ.bw); rintro e w8 ⟨rfl, hb⟩; refine ⟨_, rfl, ?_⟩; replace BK145 := A0_.mk (bB (g := gb145) SQ.kw hb); replace HB := A0_.mk (wT SQ.bw hb); clear hb))
  go_ret2
  exact ⟨SQ.er, SQ.bw⟩
 ·replace c3 := Bool.eq_false_iff.mpr c3
  subst c3
  rw [if_neg (show ¬ (false = true) by decide)] at H
  simp only [Option.some.injEq, Prod.mk.injEq] at H
  obtain ⟨rfl, rfl⟩ := H
  go_enter Tryd.func10, Tryd.ntmps10
  go_wp2_with (first | ((with_reducible refine gD (N := 1) rfl ?_); refine xE ?hg (N := 1) ?hd (cs := #[.int .i64 a0_0, .string a0_1, .bool a0_2, .string a0_3, .int .i64 a0_4, .slice A0_5 l0_5.length c0_5]) (t := 24) ?hr ?_; (case hd => rfl); (case hg => rfl); (case hr => first | (go_simp; done) | (go_simp; rfl)); intro gb145 hg w9 hbox hb; have BK145 := A0_.mk (hbox); have GW145 := A0_.mk ((by rw [hg]; exact (wZ SQ.bw) : w.heap.size ≤ gb145)); have GE145 := A0_.mk ((by rw [hg]; exact (wZ SQ.bw) : w.heap.size ≤ gb145)); replace HB := A0_.mk (wT SQ.bw hb); clear hb hbox hg; obtain ⟨hcz10_0, hcz10_1, hcz10_2, hcz10_3, hcz10_4, hcz10_5, hfz10_0, hfz10_1, hfz10_2, hfz10_3, hfz10_4, hfz10_5⟩ := SQ.cs6 BK145.out) | ((with_reducible refine gC (f := 9) rfl ?_); refine gL (some 8) rfl rfl Tryd.func9 (by kernel_rfl) rfl #[.agg #[.int .i64 a0_0, .string a0_1, .bool a0_2, .string a0_3, .int .i64 a0_4, .slice A0_5 l0_5.length c0_5]] rfl SQ.sm ?_; (with_reducible refine (node_Encode.calls k a0_0 a0_1 a0_2 a0_3 a0_4 _ _ l0_5 t146 false _ ?side1 ?side2 A2.out).mono ?_); (case side1 => repeat (first | exact (Kd.C_below HR0_5.out HB.out) | (with_reducible refine Kd.C_alloc ?_ _) | (with_reducible refine Kd.C_drewN ?_ _) | (with_reducible refine Kd.C_drew ?_))); (case side2 => exact HC0_5.out); rintro e w11 ⟨rfl, hb⟩; refine ⟨_, rfl, ?_⟩; replace BK145 := A0_.mk (bB (g := gb145) SQ.kw hb); replace HB := A0_.mk (wT SQ.bw hb); clear hb))
  go_ret2
  exact ⟨SQ.er, SQ.bw⟩

/-- A state of type 74 at block g of W; what its slices lead to came in by w0. -/
def IsS74 (w0 W : World) (g : Nat) (f0 : ByteArray) : Prop := W.heap[g]? = some (.cells #[.string f0] 74 (0, 0)) ∧ w0.heap.size ≤ g
theorem IsS74.grown {w0 W : World} {g : Nat} {f0 : ByteArray} {W1 : World} {row : Option Nat} (h : IsS74 w0 W g f0) (hw : W.grownBy W1 row) (hne : some g ≠ row) : IsS74 w0 W1 g f0 := by
 obtain ⟨hb, hg⟩ := h
 exact ⟨blk_grown hb hw hne, hg⟩
theorem IsS74.kept {w0 W : World} {g : Nat} {f0 : ByteArray} {W1 : World} {S : Nat → Prop} (h : IsS74 w0 W g f0) (hk : Kept W W1 S) (hne : ¬ S g) : IsS74 w0 W1 g f0 := by
 obtain ⟨hb, hg⟩ := h
 exact ⟨blk_kept hb hk hne, hg⟩
theorem IsS74.below {w0 W : World} {g : Nat} {f0 : ByteArray} {W1 : World} (h : IsS74 w0 W g f0) (hw : Below W.heap.size W W1) : IsS74 w0 W1 g f0 := h.grown (grown_of_below hw none) (by simp)
theorem IsS74.alloc {w0 W : World} {g : Nat} {f0 : ByteArray} (h : IsS74 w0 W g f0) (o : Obj) : IsS74 w0 (W.alloc o) g f0 := h.below (wA (Below.refl _ _) o)
theorem IsS74.drewN {w0 W : World} {g : Nat} {f0 : ByteArray} (h : IsS74 w0 W g f0) (m : Nat) : IsS74 w0 (W.drewN m) g f0 := h
theorem IsS74.drew {w0 W : World} {g : Nat} {f0 : ByteArray} (h : IsS74 w0 W g f0) : IsS74 w0 W.drew g f0 := h
theorem IsS74.at_ {w0 W : World} {g : Nat} {f0 : ByteArray} {w' : World} {m : Nat} (hq : W.drewN m = w') (h : IsS74 w0 W g f0) : IsS74 w0 w' g f0 := by subst hq; exact IsS74.drewN h m
theorem IsS74.apart {w0 W : World} {g : Nat} {f0 : ByteArray} {α : Type} {d : Kd α} {e : Nat} {base : Nat} {ok : Nat → Prop} {v : Value} {xs : List α} (h : IsS74 w0 W g f0) (ho : d.R e W base ok v xs) (ht : ∀ q, q ∈ e :: d.E → q ≠ 74) : d.R e W base (fun k => ok k ∧ k ≠ g) v xs := by
 obtain ⟨hb, hg⟩ := h
 exact Kd.R_types ho hb ht
theorem IsS74.own_ne {w0 W : World} {g : Nat} {f0 : ByteArray} {α : Type} {d : Kd α} {e : Nat} {base : Nat} {ok : Nat → Prop} {v : Value} {xs : List α} (h : IsS74 w0 W g f0) (ho : d.R e W base ok v xs) (ht : e ≠ 74) : some g ≠ v.ownBlock := by
 obtain ⟨hb, hg⟩ := h
 exact Kd.R_ne ho hb ht
theorem IsS74.ge {w0 W : World} {g : Nat} {f0 : ByteArray} (h : IsS74 w0 W g f0) : w0.heap.size ≤ g := by
 obtain ⟨hb, hg⟩ := h
 exact hg
theorem IsS74.far {w0 W : World} {g : Nat} {f0 : ByteArray} {p : Addr} (h : IsS74 w0 W g f0) (hne : g ≠ p.block) (u : Value) : IsS74 w0 (W.setCell p u) g f0 := by
 obtain ⟨hb, hg⟩ := h
 exact ⟨bR hb hne u, hg⟩
theorem cellS74_0 {W : World} {g : Nat} {f0 : ByteArray} (h : W.heap[g]? = some (.cells #[.string f0] 74 (0, 0))) : W.cell? ⟨g, 0, none⟩ = some (.string f0) := (bC h 0).trans rfl
theorem IsS74.set_0 {w0 W : World} {g : Nat} {f0 : ByteArray} (h : IsS74 w0 W g f0) (x : ByteArray) : IsS74 w0 (W.setCell ⟨g, 0, none⟩ (.string x)) g x := by
 obtain ⟨hb, hg⟩ := h
 exact ⟨by simpa using blk_set hb 0 (.string x), hg⟩
/-! ### nibble_Of: function 67 -/
def nibble_Of.l0 : Nat → ByteArray → List Int → Int → Int → Option (ByteArray)
 | 0, _, _, _, _ => none
 | k + 1, x0, x3, x10, x11 => if x11 < x10 then (if 0 ≤ x11 then (if x11 < (x0.size : Int) then ((some (([(bt x0 x11) / 16, Go.bits .and .u8 (bt x0 x11) 15] : List Int) : List Int)).bind fun y154 => (if x3.length + y154.length < 140737488355328 then (nibble_Of.l0 k x0 (x3 ++ y154) x10 (wrap64 (x11 + 1))) else (none))) else (none)) else (none)) else (some (strOfNums x3))
def nibble_Of.f (k : Nat) (a0 : ByteArray) : Option (ByteArray) := if 0 ≤ (wrap64 (2 * (a0.size : Int))) then (if (wrap64 (2 * (a0.size : Int))) ≤ 281474976710656 then (nibble_Of.l0 k a0 (List.replicate 0 0) (a0.size : Int) 0) else (none)) else (none)
def nibble_Of.T5 : Bool × List (List Nat × List Nat) := (true, [([], []), ([], []), ([], []), ([1, 2], [1, 2]), ([3], [3]), ([], []), ([], []), ([5, 6], [5, 6]), ([7], [7]), ([4, 8], [4, 8]), ([0, 9], [0, 9]), ([10, 10, 0, 1, 2, 3, 4, 5, 6, 7, 8, 9, 10], [0, 10])])
def nibble_Of.B5 : List Nat := [0, 0, 0, 6, 14, 0, 0, 96, 224, 510, 1023, 2047]
theorem nibble_Of.tab5 : rtab .any (opsOf Tryd.f67 5) = nibble_Of.T5 := by kernel_rfl
theorem nibble_Of.bits5 : waitsOk nibble_Of.T5.2 nibble_Of.B5 = true := by kernel_rfl
set_option maxHeartbeats 8000000 in
set_option maxRecDepth 100000 in
theorem nibble_Of.calls (k : Nat) (a0 : ByteArray) (r : ByteArray) (w : World) (h : nibble_Of.f k a0 = some r) :
  Calls Tryd.prog 67 #[.string a0] w fun e w' => e = .returned (.string r) ∧ Below w.heap.size w w' := by
 have HB := A0_.mk (Below.refl w.heap.size w)
 have H : (if 0 ≤ (wrap64 (2 * (a0.size : Int))) then (if (wrap64 (2 * (a0.size : Int))) ≤ 281474976710656 then (nibble_Of.l0 k a0 (List.replicate 0 0) (a0.size : Int) 0) else (none)) else (none)) = some r := h
 clear h
 obtain ⟨ji2, hji2⟩ : ∃ j_ : Int, (wrap64 (2 * (a0.size : Int))) = j_ := ⟨_, rfl⟩
 replace H : (if 0 ≤ (ji2) then (if (ji2) ≤ 281474976710656 then (nibble_Of.l0 k a0 (List.replicate 0 0) (a0.size : Int) 0) else (none)) else (none)) = some r := by first | (rw [hji2] at H; exact H) | (simp only [hji2] at H ⊢; exact H)
 have hji2w : (IntKind.i64.wrap (2 * (a0.size : Int))) = ji2 := (i64_w _).trans hji2
 by_cases c3 : 0 ≤ (ji2)
 rotate_left
 ·rw [if_neg c3] at H
  exact absurd H (by simp)
 rw [if_pos c3] at H
 have c3b0 := eq_true c3
 have c3b1 : decide (0 ≤ (ji2)) = true := decide_eq_true c3
 clear c3
 by_cases c4 : (ji2) ≤ 281474976710656
 rotate_left
 ·rw [if_neg c4] at H
  exact absurd H (by simp)
 rw [if_pos c4] at H
 have c4b0 := eq_true c4
 have c4b1 : decide ((ji2) ≤ 281474976710656) = true := decide_eq_true c4
 clear c4
 obtain ⟨y151, hy151⟩ : ∃ y_ : List Int, y_ = (List.replicate 0 0) := ⟨_, rfl⟩
 replace H : (nibble_Of.l0 k a0 y151 (a0.size : Int) 0) = some r := by first | (rw [hy151]; with_reducible exact H) | (have H2_ := (Option.bind_some _ _).symm.trans H; rw [hy151]; with_reducible exact H2_) | (have H2_ := (Option.bind_some _ _).symm.trans H; with_reducible exact H2_) | with_reducible exact H | (rw [hy151]; exact H) | exact H
 have Ny151 := A0_.mk hy151
 clear hy151
 have H' := A0_.mk H
 clear H
 go_enter Tryd.func67, Tryd.ntmps67
 go_wp2_with (first | ((with_reducible refine gD (N := 8) rfl ?_); refine Kd.R_makecap (Kd.int .u8) _ 5 rfl (N := 8) rfl 42 _ _ rfl 0 ji2 rfl rfl Tryd.underlying42 (.int .u8 0) 1 info5 rfl (by decide) (by omega) 0 (ok := fun _ => True) (okp := fun _ => True) rfl (fun _ hk => hk) trivial (by omega) (SQ.da) (le_cap_ (by_ := 1) (K := 281474976710656) (SQ.da) (by decide)) (Below.refl _ _) (Nat.le_refl _) ?_; intro v152 w5 ho6 hb hg_ hnew_; clear hg_ hnew_; (first | rw [← Ny151.out] at ho6 | (simp only [Int.reduceToNat] at ho6; rw [← Ny151.out] at ho6)); have HO153 := A0_.mk (Kd.R_lower ho6 (wZ SQ.bw)); replace HB := A0_.mk (wT SQ.bw hb); clear hb ho6))
 go_loopg [3, 11] k (fun kq v3 v11 w' => ∃ (x3_1 : List Int) (x11_1 : Int), v11 = .int .i64 x11_1 ∧ A0_ (nibble_Of.l0 kq a0 x3_1 (a0.size : Int) x11_1 = some r) ∧ A0_ (kq ≤ k) ∧ A0_ (Kd.R (Kd.int .u8) 5 w' w.heap.size (fun _ => True) v3 x3_1) ∧ A0_ (Below w.heap.size w w'))
 case atStart => exact ⟨(y151), (0), (by first | rfl | (simp; done) | (simp [*]; done)), H', ⟨Nat.le_refl _⟩, ⟨by (with_reducible repeat (first | apply Kd.R_alloc | apply Kd.R_drewN | apply Kd.R_drew)); exact HO153.out⟩, ⟨SQ.bw⟩⟩
 case round =>
  clear H'
  try clear p2
  try clear c3
  try clear c3b0
  try clear c3b1
  try clear c4
  try clear c4b0
  try clear c4b1
  try clear c6
  try clear p6
  obtain ⟨x3_1, x11_1, rfl, HA, HK1, HO_3, HB⟩ := hrel
  cases gk with
  | zero => exact absurd HA.out (by simp [nibble_Of.l0])
  | succ k1 =>
   have H := HA.out
   clear HA
   simp only [nibble_Of.l0] at H
   by_cases c7 : x11_1 < (a0.size : Int)
   ·rw [if_pos c7] at H
    have c7b0 : decide (x11_1 < (a0.size : Int)) = true := decide_eq_true c7
    clear c7
    by_cases c8 : 0 ≤ x11_1
    rotate_left
    ·rw [if_neg c8] at H
     exact absurd H (by simp)
    rw [if_pos c8] at H
    have c8b0 : decide (0 ≤ x11_1) = true := decide_eq_true c8
    clear c8
    by_cases c9 : x11_1 < (a0.size : Int)
    rotate_left
    ·rw [if_neg c9] at H
     exact absurd H (by simp)
    rw [if_pos c9] at H
    have c9b0 : decide (x11_1 < (a0.size : Int)) = true := decide_eq_true c9
    clear c9
    obtain ⟨y154, hy154⟩ : ∃ y_ : List Int, y_ = (([(bt a0 x11_1) / 16, Go.bits .and .u8 (bt a0 x11_1) 15] : List Int)) := ⟨_, rfl⟩
    replace H : (if x3_1.length + y154.length < 140737488355328 then (nibble_Of.l0 k1 a0 (x3_1 ++ y154) (a0.size : Int) (wrap64 (x11_1 + 1))) else (none)) = some r := by first | (rw [hy154]; with_reducible exact H) | (have H2_ := (Option.bind_some _ _).symm.trans H; rw [hy154]; with_reducible exact H2_) | (have H2_ := (Option.bind_some _ _).symm.trans H; with_reducible exact H2_) | with_reducible exact H | (rw [hy154]; exact H) | exact H
    have Ny154 := A0_.mk hy154
    clear hy154
    by_cases c12 : x3_1.length + y154.length < 140737488355328
    rotate_left
    ·rw [if_neg c12] at H
     exact absurd H (by simp)
    rw [if_pos c12] at H
    have LMc12 := A0_.mk c12
    clear c12
    obtain ⟨y157, hy157⟩ : ∃ y_ : List Int, y_ = (x3_1 ++ y154) := ⟨_, rfl⟩
    replace H : (nibble_Of.l0 k1 a0 y157 (a0.size : Int) (wrap64 (x11_1 + 1))) = some r := by first | (rw [hy157]; with_reducible exact H) | (have H2_ := (Option.bind_some _ _).symm.trans H; rw [hy157]; with_reducible exact H2_) | (have H2_ := (Option.bind_some _ _).symm.trans H; with_reducible exact H2_) | with_reducible exact H | (rw [hy157]; exact H) | exact H
    have Ny157 := A0_.mk hy157
    clear hy157
    have H' := A0_.mk H
    clear H
    try go_wp2
    replace HO_3 := A0_.mk (Kd.R_drew HO_3.out)
    replace HB := A0_.mk (wD HB.out)
    have p10 : 0 ≤ (x11_1 : Int) := SQ.da
    have q10 : x11_1 < (a0.size : Int) := SQ.da
    have hx10 := bt_at a0 x11_1
    replace p10 := eq_true p10
    replace q10 := eq_true q10
    have p11 : 0 ≤ (x11_1 : Int) := SQ.da
    have q11 : x11_1 < (a0.size : Int) := SQ.da
    have hx11 := bt_at a0 x11_1
    replace p11 := eq_true p11
    replace q11 := eq_true q11
    refine start_ (n := 12) (S := fun w' => True) (ds := []) #[false, false, false, false, false, false, false, false, false, false, false, false] (by kernel_rfl) rfl rfl trivial (fun hHeld => ?_); refine with_tabW nibble_Of.tab5 nibble_Of.bits5 (fun HT_ HW_ => ?_)
    generalize wr.drew = w13 at HO_3 HB hHeld ⊢
    refine pure_ (i := 0) (N := some 14) (v := ?_) (a' := ?_) #[true, false, false, false, false, false, false, false, false, false, false, false] rfl rfl (any_of HT_.out (by kernel_rfl)) (fun _ _ _ h => h) (Or.inl ⟨by rfl, ?_⟩) ?_ ?_
    rotate_left
    ·intro w'
     go_simp
     with_reducible rfl
    rotate_left
    ·simp only [Act.put, List.setIfInBounds_toArray, List.set_cons_zero, List.set_cons_succ, i64_w, i32_w]
     rfl
    refine pure_ (i := 1) (N := some 15) (v := ?_) (a' := ?_) #[true, true, false, false, false, false, false, false, false, false, false, false] rfl rfl (any_of HT_.out (by kernel_rfl)) (fun _ _ _ h => h) (Or.inl ⟨by rfl, ?_⟩) ?_ ?_
    rotate_left
    ·intro w'
     go_simp
     with_reducible rfl
    rotate_left
    ·simp only [Act.put, List.setIfInBounds_toArray, List.set_cons_zero, List.set_cons_succ, i64_w, i32_w]
     rfl
    refine pure_ (i := 2) (N := some 16) (v := ?_) (a' := ?_) #[true, true, true, false, false, false, false, false, false, false, false, false] rfl rfl (any_of HT_.out (by kernel_rfl)) (fun _ _ _ h => h) (Or.inl ⟨by rfl, ?_⟩) ?_ ?_
    rotate_left
    ·intro w'
     go_simp
     with_reducible rfl
    rotate_left
    ·simp only [Act.put, List.setIfInBounds_toArray, List.set_cons_zero, List.set_cons_succ, i64_w, i32_w]
     rfl
    refine pure_ (i := 5) (N := some 19) (v := ?_) (a' := ?_) #[true, true, true, false, false, true, false, false, false, false, false, false] rfl rfl (any_of HT_.out (by kernel_rfl)) (fun _ _ _ h => h) (Or.inl ⟨by rfl, ?_⟩) ?_ ?_
    rotate_left
    ·intro w'
     go_simp
     with_reducible rfl
    rotate_left
    ·simp only [Act.put, List.setIfInBounds_toArray, List.set_cons_zero, List.set_cons_succ, i64_w, i32_w]
     rfl
    refine pure_ (i := 6) (N := some 20) (v := ?_) (a' := ?_) #[true, true, true, false, false, true, true, false, false, false, false, false] rfl rfl (any_of HT_.out (by kernel_rfl)) (fun _ _ _ h => h) (Or.inl ⟨by rfl, ?_⟩) ?_ ?_
    rotate_left
    ·intro w'
     go_simp
     with_reducible rfl
    rotate_left
    ·simp only [Act.put, List.setIfInBounds_toArray, List.set_cons_zero, List.set_cons_succ, i64_w, i32_w]
     rfl
    refine take_ (i := 3) (N := some 17) (v := ?_) (a' := ?_) #[true, true, true, true, false, true, true, false, false, false, false, false] rfl rfl (take_ofW HT_.out HW_.out (by kernel_rfl)) (fun _ _ _ h => h) (Or.inl ⟨by rfl, ?_⟩) hHeld ?_ ?_
    rotate_left
    ·intro w' _
     go_simp
     with_reducible rfl
    rotate_left
    ·simp only [Act.put, List.setIfInBounds_toArray, List.set_cons_zero, List.set_cons_succ, i64_w, i32_w]
     rfl
    refine pure_ (i := 4) (N := some 18) (v := ?_) (a' := ?_) #[true, true, true, true, true, true, true, false, false, false, false, false] rfl rfl (any_of HT_.out (by kernel_rfl)) (fun _ _ _ h => h) (Or.inl ⟨by rfl, ?_⟩) ?_ ?_
    rotate_left
    ·intro w'
     go_simp
     with_reducible rfl
    rotate_left
    ·simp only [Act.put, List.setIfInBounds_toArray, List.set_cons_zero, List.set_cons_succ, i64_w, i32_w]
     rfl
    refine take_ (i := 7) (N := some 21) (v := ?_) (a' := ?_) #[true, true, true, true, true, true, true, true, false, false, false, false] rfl rfl (take_ofW HT_.out HW_.out (by kernel_rfl)) (fun _ _ _ h => h) (Or.inl ⟨by rfl, ?_⟩) hHeld ?_ ?_
    rotate_left
    ·intro w' _
     go_simp
     with_reducible rfl
    rotate_left
    ·simp only [Act.put, List.setIfInBounds_toArray, List.set_cons_zero, List.set_cons_succ, i64_w, i32_w]
     rfl
    refine pure_ (i := 8) (N := some 22) (v := ?_) (a' := ?_) #[true, true, true, true, true, true, true, true, true, false, false, false] rfl rfl (any_of HT_.out (by kernel_rfl)) (fun _ _ _ h => h) (Or.inl ⟨by rfl, ?_⟩) ?_ ?_
    rotate_left
    ·intro w'
     go_simp
     with_reducible rfl
    rotate_left
    ·simp only [Act.put, List.setIfInBounds_toArray, List.set_cons_zero, List.set_cons_succ, i64_w, i32_w]
     rfl
    refine one_ (i := 9) (N := some 23) #[true, true, true, true, true, true, true, true, true, true, false, false] rfl rfl (one_of HT_.out (by kernel_rfl)) (by decide) (fun K hK => ?_)
    refine Kd.R_lit_step (Kd.int .u8) _ 5 ?hg (N := 23) ?hd (xs := ([(bt a0 x11_1) / 16, Go.bits .and .u8 (bt a0 x11_1) 15] : List Int)) (inner := [.int .u8 ((bt a0 x11_1) / 16), .int .u8 (Go.bits .and .u8 (bt a0 x11_1) 15)]) (ok := fun _ => True) (okp := fun _ => True) ?hr ?hp (fun _ hk => hk) trivial (Below.refl _ _) (Nat.le_refl _) (by simp) ?_; (case hd => rfl); (case hg => rfl); (case hr => first | (go_simp; done) | (go_simp; rfl)); (case hp => exact (Reps.one (show Kd.M (Kd.int .u8) _ _ _ ((bt a0 x11_1) / 16) [.int .u8 ((bt a0 x11_1) / 16)] from rfl) (Reps.one (show Kd.M (Kd.int .u8) _ _ _ (Go.bits .and .u8 (bt a0 x11_1) 15) [.int .u8 (Go.bits .and .u8 (bt a0 x11_1) 15)] from rfl) (Reps.none _ _))))
    intro v155 w14 ho15 hb hg_ hnew_
    clear hg_ hnew_
    (first | rw [← Ny154.out] at ho15 | (simp only [Int.reduceToNat] at ho15; rw [← Ny154.out] at ho15))
    have HO156 := A0_.mk (Kd.R_lower (Kd.R_new' ho15 (Kd.R_lt (by (with_reducible repeat (first | apply Kd.R_alloc | apply Kd.R_drewN | apply Kd.R_drew)); exact HO_3.out))) (wZ SQ.bw))
    replace HO_3 := A0_.mk (Kd.R_elder' (by (with_reducible repeat (first | apply Kd.R_alloc | apply Kd.R_drewN | apply Kd.R_drew)); exact HO_3.out) (Kd.R_base ho15) hb)
    replace HB := A0_.mk (wT SQ.bw hb)
    clear hb ho15
    obtain ⟨Ao17, co17, eo17⟩ := Kd.R_slice HO156.out
    (first | subst eo17 | (injection eo17 with f1_ f2_ f3_; have f4_ := f1_.symm; have f5_ := f3_.symm; clear f1_ f2_ f3_; subst f4_; subst f5_))
    refine hK.out _ _ trivial (fun hHeld => ?_)
    clear hK K
    refine norm_ (a' := ?_) ?_ ?_
    rotate_left
    ·show Act.put _ (some 23) _ = _
     simp only [Act.put, List.setIfInBounds_toArray, List.set_cons_zero, List.set_cons_succ, i64_w, i32_w]
     rfl
    refine one_ (i := 10) (N := some 24) #[true, true, true, true, true, true, true, true, true, true, true, false] rfl rfl (one_of HT_.out (by kernel_rfl)) (by decide) (fun K hK => ?_)
    refine Kd.R_append_rows_step (Kd.int .u8) (w0 := w) w.heap.size (by rfl) (.tmp 14) (.tmp 23) 42 5 (.int .u8 0) 1 rfl Tryd.underlying42 info5 rfl (by decide) (by omega) u3 x3_1 y154 _ _ _ (fun k_ => some k_ ≠ (.slice Ao17 y154.length co17 : Value).ownBlock) (fun _ => False) rfl rfl ?aO ?aR (fun _ _ h => h) (fun _ h => h.elim) ?aF ?aB ?aS ?aL ?_
    (case aR => repeat (first | exact (Kd.R_reads' HO156.out).2.2 | (with_reducible refine Kd.C_alloc ?_ _) | (with_reducible refine Kd.C_drewN ?_ _) | (with_reducible refine Kd.C_drew ?_)))
    (case aB => exact SQ.bw)
    (case aF => exact (fun k_ hk => Kd.fresh' (Kd.R_lt (by (with_reducible repeat (first | apply Kd.R_alloc | apply Kd.R_drewN | apply Kd.R_drew)); exact HO156.out)) k_ hk))
    (case aO => exact (by (with_reducible repeat (first | apply Kd.R_alloc | apply Kd.R_drewN | apply Kd.R_drew)); exact Kd.R_mono HO_3.out (fun _ hk => hk.2)))
    (case aS => exact (wZ SQ.bw))
    (case aL => have := LMc12.out; omega)
    intro v158 w16 ho hb hg hat
    rw [← Ny157.out] at ho
    have HO159 := A0_.mk (ho)
    replace HO156 := A0_.mk (Kd.R_after (ok := (fun _ => True)) (by (with_reducible repeat (first | apply Kd.R_alloc | apply Kd.R_drewN | apply Kd.R_drew)); exact HO156.out) hg hat)
    replace HB := A0_.mk (hb)
    clear HO_3
    clear ho hb hg hat
    refine hK.out _ _ trivial (fun hHeld => ?_)
    clear hK K
    refine norm_ (a' := ?_) ?_ ?_
    rotate_left
    ·show Act.put _ (some 24) _ = _
     simp only [Act.put, List.setIfInBounds_toArray, List.set_cons_zero, List.set_cons_succ, i64_w, i32_w]
     rfl
    refine pure_ (i := 11) (N := some 3) (v := ?_) (a' := ?_) #[true, true, true, true, true, true, true, true, true, true, true, true] rfl rfl (any_of HT_.out (by kernel_rfl)) (fun _ _ _ h => h) (Or.inl ⟨by rfl, ?_⟩) ?_ ?_
    rotate_left
    ·intro w'
     go_simp
     with_reducible rfl
    rotate_left
    ·simp only [Act.put, List.setIfInBounds_toArray, List.set_cons_zero, List.set_cons_succ, i64_w, i32_w]
     rfl
    refine done_ (done_of HT_.out (by kernel_rfl)) ?_
    try go_wp2
    go_roundg k1
    case measure => have := HK1.out; omega
    case rel => exact ⟨(y157), (wrap64 (x11_1 + 1)), (by first | rfl | (simp; done) | (simp [*]; done)), H', ⟨by have := HK1.out; omega⟩, ⟨by (with_reducible repeat (first | apply Kd.R_alloc | apply Kd.R_drewN | apply Kd.R_drew)); exact Kd.R_mono HO159.out (fun _ hk => trivial)⟩, ⟨SQ.bw⟩⟩
   ·rw [if_neg c7] at H
    have c7b0 : decide (x11_1 < (a0.size : Int)) = false := decide_eq_false c7
    clear c7
    obtain rfl := Option.some.inj H
    have hcv18 := own_string (P := Tryd.prog) Tryd.underlying42 Tryd.underlying5 Tryd.underlying9 (Kd.own_of_R HO_3.out)
    go_wp2
    go_ret
    exact ⟨by first | rfl | (simp [errW_none, errW_some] <;> rfl) | (simp only [← hji2]; first | rfl | (simp [errW_none, errW_some] <;> rfl)) | (simp [*, errW_none, errW_some] <;> rfl), SQ.bw⟩

end Go.Proofs.YtklakmooaffjpaaDoor.PNod
end
