/-
  PagePlaces: the plain statement, and the walk for every argument.
-/
import Derived.Test.YtiajgmocmnjijaaDoorPPagx9
import Derived.Test.YtiajgmocmnjijaaDoorPagW
import Derived.Test.YtiajgmocmnjijaaDoorPagG
namespace Go.Proofs.YtiajgmocmnjijaaDoor.PagX
open Go.RowKit Go.Proofs.YtiajgmocmnjijaaDoor.PPag Go.Proofs.YtiajgmocmnjijaaDoorW.PrintWords Go.Proofs.YtiajgmocmnjijaaDoorW.PrintLast Go.Proofs.YtiajgmocmnjijaaDoorW.PrintMore Go.Proofs.YtiajgmocmnjijaaDoor.Str Go.Proofs.YtiajgmocmnjijaaDoor.Dig Go.Proofs.YtiajgmocmnjijaaDoor.PagH Go.Proofs.YtiajgmocmnjijaaDoor.PagP Go.Proofs.YtiajgmocmnjijaaDoor.PagQ Go.Proofs.YtiajgmocmnjijaaDoor.PagR Go.Proofs.YtiajgmocmnjijaaDoor.PagW
set_option linter.unusedVariables false
theorem nought {s : ByteArray} {at' a b : Int} {pl : ByteArray} (h : isPage s at' a b pl) (i : Nat) (h1 : 9 + pl.size ≤ i) (h2 : i < 252) : bt s i = 0 := by
  have hl := bodyL_len a b at' pl h.1.2.2.2.2.2.2
  rw [bt_rd, page_bytes h]
  show (fullL a b at' pl).getD i 0 = 0
  rw [List.getD_eq_getElem?_getD, fullL, List.getElem?_append_left (by omega), bodyL, List.getElem?_append_right (by simp [len_bytesOf]; omega)]
  rw [List.getElem?_replicate, if_pos (by simp [len_bytesOf]; omega)]; rfl
theorem l0_ev {s : ByteArray} {at' a b : Int} {pl : ByteArray} (h : isPage s at' a b pl) : ∀ m i : Nat, m + i = 252 → 9 + pl.size ≤ i → Ev (fun k => umbellaw07_PagePlaces.l0 k s (i : Int)) true
  | 0, i, hi, hp => by
    have hr : Ev (fun k => page_Right.f k s) true := by have := right_ev s; rw [decide_eq_true (page_right h)] at this; exact this
    refine Ev.step (f := _) (fun k => by rw [umbellaw07_PagePlaces.l0, if_neg (by omega)]) ?_
    refine Ev.bind hr ?_
    exact Ev.congr (f := _) (fun k => if_pos rfl) (Ev.bind wakes_ev (Ev.now _))
  | m + 1, i, hi, hp => by
    have hs := page_size h
    refine Ev.step (f := _) (fun k => by rw [umbellaw07_PagePlaces.l0, if_pos (by omega), if_pos (by omega), if_pos (by omega), if_pos (nought h i hp (by omega)), show wrap64 ((i : Int) + 1) = ((i + 1 : Nat) : Int) from wr (by omega) (by omega)]) ?_
    exact l0_ev h m (i + 1) (by omega) (by omega)
theorem wr9 (n : Nat) (h : n ≤ 243) : wrap64 (9 + (n : Int)) = ((9 + n : Nat) : Int) := by unfold wrap64; omega
theorem le9 (n : Nat) : (9 : Int) ≤ ((9 + n : Nat) : Int) := by omega
theorem le256 (n : Nat) (h : n ≤ 243) : ((9 + n : Nat) : Int) ≤ ((256 : Nat) : Int) := by omega
theorem small9 (n : Nat) (h : n ≤ 243) : (n : Int) ≤ 65535 := by omega
theorem sum9 (n : Nat) (h : n ≤ 243) : 243 - n + (9 + n) = 252 := by omega
theorem num1 (x : Int) (h0 : 1 ≤ x) (h1 : x ≤ 255) : wrap64 (x % 256) = x := by rw [wr (x := x % 256) (by omega) (by omega)]; omega
theorem num2 (x : Int) (h0 : 0 ≤ x) (h1 : x ≤ 65535) : wrap64 (wrap64 (wrap64 (x / 256 % 256) * 256) + wrap64 (x % 256)) = x := by
  rw [wr (x := x / 256 % 256) (by omega) (by omega), wr (x := x % 256) (by omega) (by omega), wr (x := x / 256 % 256 * 256) (by omega) (by omega), wr (by omega) (by omega)]
  omega
theorem num4 (b : Int) (v1 : 0 ≤ b) (v2 : b ≤ 2147483647) : wrap64 (wrap64 (wrap64 (wrap64 (wrap64 (b / 16777216 % 256) * 16777216) + wrap64 (wrap64 (b / 65536 % 256) * 65536)) + wrap64 (wrap64 (b / 256 % 256) * 256)) + wrap64 (b % 256)) = b := by
  rw [wr (x := b / 16777216 % 256) (by omega) (by omega), wr (x := b / 65536 % 256) (by omega) (by omega), wr (x := b / 256 % 256) (by omega) (by omega), wr (x := b % 256) (by omega) (by omega)]
  rw [wr (x := b / 16777216 % 256 * 16777216) (by omega) (by omega), wr (x := b / 65536 % 256 * 65536) (by omega) (by omega), wr (x := b / 256 % 256 * 256) (by omega) (by omega)]
  rw [wr (x := b / 16777216 % 256 * 16777216 + b / 65536 % 256 * 65536) (by omega) (by omega)]
  rw [wr (x := b / 16777216 % 256 * 16777216 + b / 65536 % 256 * 65536 + b / 256 % 256 * 256) (by omega) (by omega)]
  rw [wr (by omega) (by omega)]
  omega
theorem places_ev (a b : Int) (pl : ByteArray) (at' : Int) : Ev (fun k => umbellaw07_PagePlaces.f k a b pl at') true := by
  unfold umbellaw07_PagePlaces.f
  refine Ev.bind (put_ev a b at' pl) ?_
  by_cases ho : okP a b at' pl
  · have hp : isPage (strOfNums (fullL a b at' pl)) at' a b pl := ⟨ho, rfl⟩
    obtain ⟨s, hs⟩ : ∃ s, s = strOfNums (fullL a b at' pl) := ⟨_, rfl⟩
    rw [putR, if_pos ho]
    rw [← hs] at hp ⊢
    have hz := page_size hp
    obtain ⟨r, hr⟩ := fullL_eq a b at' pl
    have hb := (page_bytes hp).trans hr
    have b0 : bt s 0 = a % 256 := by rw [bt_rd, hb]; rfl
    have b1 : bt s 1 = at' / 256 % 256 := by rw [bt_rd, hb]; rfl
    have b2 : bt s 2 = at' % 256 := by rw [bt_rd, hb]; rfl
    have b3 : bt s 3 = b / 16777216 % 256 := by rw [bt_rd, hb]; rfl
    have b4 : bt s 4 = b / 65536 % 256 := by rw [bt_rd, hb]; rfl
    have b5 : bt s 5 = b / 256 % 256 := by rw [bt_rd, hb]; rfl
    have b6 : bt s 6 = b % 256 := by rw [bt_rd, hb]; rfl
    have b7 : bt s 7 = (pl.size : Int) / 256 % 256 := by rw [bt_rd, hb]; rfl
    have b8 : bt s 8 = (pl.size : Int) % 256 := by rw [bt_rd, hb]; rfl
    obtain ⟨a1, a2, t1, t2, v1, v2, hl⟩ := ho
    have w1 : wrap64 (9 + (pl.size : Int)) = ((9 + pl.size : Nat) : Int) := wr9 _ hl
    have e0 : wrap64 (bt s 0) = a := by rw [b0]; exact num1 a a1 a2
    have e1 : wrap64 (wrap64 (wrap64 (bt s 1) * 256) + wrap64 (bt s 2)) = at' := by rw [b1, b2]; exact num2 at' t1 t2
    have e7 : wrap64 (wrap64 (wrap64 (bt s 7) * 256) + wrap64 (bt s 8)) = (pl.size : Int) := by rw [b7, b8]; exact num2 _ (Int.natCast_nonneg _) (small9 _ hl)
    have e3 : wrap64 (wrap64 (wrap64 (wrap64 (wrap64 (bt s 3) * 16777216) + wrap64 (wrap64 (bt s 4) * 65536)) + wrap64 (wrap64 (bt s 5) * 256)) + wrap64 (bt s 6)) = b := by
      rw [b3, b4, b5, b6]; exact num4 b v1 v2
    clear b0 b1 b2 b3 b4 b5 b6 b7 b8
    have ep : s.extract 9 (9 + pl.size) = pl := by
      apply bytes_inj
      rw [bytes_extract, hb, List.drop_take, Nat.add_sub_cancel_left]
      show (bytesOf pl ++ r).take pl.size = _
      rw [← len_bytesOf, List.take_left]
    have z9 : (9 : Int) ≤ ((9 + pl.size : Nat) : Int) := le9 _
    have z10 : ((9 + pl.size : Nat) : Int) ≤ (s.size : Int) := by rw [hz]; exact le256 _ hl
    have z : ∀ i : Int, i < 256 → i < (s.size : Int) := fun i hi => by rw [hz]; exact hi
    refine Ev.congr (f := _) (fun k => by
      rw [if_pos rfl, if_pos (by rw [hz]; rfl), if_pos (z 0 (by decide)), if_pos e0, if_pos (z 1 (by decide)), if_pos (z 2 (by decide)), if_pos e1, if_pos (z 3 (by decide)), if_pos (z 4 (by decide)), if_pos (z 5 (by decide)), if_pos (z 6 (by decide)), if_pos e3, if_pos (z 7 (by decide)), if_pos (z 8 (by decide)), if_pos e7, w1, if_pos z9, if_pos z10, Int.toNat_natCast, ep, show (pl.toList != pl.toList) = false by simp]) ?_
    refine Ev.step (f := _) (fun k => by rw [umbellaw07_PagePlaces.j0, if_neg (by decide), w1]) ?_
    exact l0_ev hp (243 - pl.size) (9 + pl.size) (sum9 _ hl) (Nat.le_refl _)
  · rw [putR, if_neg ho]
    refine Ev.congr (f := _) (fun k => by rw [if_neg (by decide), if_pos ((toList_nil _).2 rfl)]) ?_
    exact Ev.bind wakes_ev (Ev.now _)
theorem walk (a0 b0 : Int) (c0 : ByteArray) (a1 : Int) (w : World) (hG : Go.Proofs.YtiajgmocmnjijaaDoor.SumH.Glob w) (w1 : (Lit.int .i64 a1).wf = true) :
    Calls Tryd.prog 5 #[.agg #[.int .i64 a0, .int .i64 b0, .string c0], .int .i64 a1] w fun e w' => e = .returned (.bool true) ∧ Below w.heap.size w w' := by
  obtain ⟨k, hk⟩ := (places_ev a0 b0 c0 a1).rounds
  exact umbellaw07_PagePlaces.calls k a0 b0 c0 a1 true w hG hk
end Go.Proofs.YtiajgmocmnjijaaDoor.PagX
