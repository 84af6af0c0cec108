/-
  What stands behind a text: the statement about numbers and lists that the printed law leaves.
-/
import Derived.Test.YtbphehijikdkjaaDoorPDglx1
import Derived.Test.YtbphehijikdkjaaDoorDgsC
namespace Go.Proofs.YtbphehijikdkjaaDoor.Pure
open Go.RowKit Go.Proofs.YtbphehijikdkjaaDoor.PDgl Go.Proofs.YtbphehijikdkjaaDoorW.PrintWords Go.Proofs.YtbphehijikdkjaaDoorW.PrintLast Go.Proofs.YtbphehijikdkjaaDoorW.PrintMore Go.Proofs.YtbphehijikdkjaaDoor.Str Go.Proofs.YtbphehijikdkjaaDoor.Dig Go.Proofs.YtbphehijikdkjaaDoor.DgsL Go.Proofs.YtbphehijikdkjaaDoor.DgsC
set_option linter.unusedVariables false
theorem or_add (x b : Nat) (hx : x < 72057594037927936) (hb : b < 256) : Go.bits .or .u64 (IntKind.u64.wrap ((x : Int) * 256)) (IntKind.u64.wrap (b : Int)) = ((x * 256 + b : Nat) : Int) := by
  have e : (x : Int) * 256 = ((x * 256 : Nat) : Int) := by omega
  rw [e, wN, wN, orN, Q_eq, Nat.mod_mod, Nat.mod_mod, Nat.mod_eq_of_lt (by omega), Nat.mod_eq_of_lt (by omega)]
  have h := Nat.shiftLeft_add_eq_or_of_lt (a := x) (b := b) (i := 8) (by omega)
  rw [Nat.shiftLeft_eq, show (2 : Nat) ^ 8 = 256 from rfl] at h
  rw [h]
theorem rd_pad0 (n : Nat) : rd (padB n) 0 = 128 := rfl
theorem rd_padz (n i : Nat) (h1 : 1 ≤ i) (h2 : i ≤ zr n) : rd (padB n) (i : Int) = 0 := by
  obtain ⟨j, rfl⟩ : ∃ j, i = j + 1 := ⟨i - 1, by omega⟩
  simp only [rd, Int.toNat_natCast, padB, List.getD_cons_succ]
  rw [List.getD_eq_getElem?_getD, List.getElem?_append_left (by simp; omega), List.getElem?_replicate, if_pos (by omega)]
  rfl
theorem rd_padt (n j : Nat) : rd (padB n) ((zr n + 1 + j : Nat) : Int) = (dg 8 (8 * n)).getD j 0 := by
  simp only [rd, Int.toNat_natCast, padB]
  rw [show zr n + 1 + j = (zr n + j) + 1 by omega, List.getD_cons_succ, List.getD_eq_getElem?_getD, List.getElem?_append_right (by simp), List.length_replicate, show zr n + j - zr n = j by omega, ← List.getD_eq_getElem?_getD]
theorem de_take (v j : Nat) (h : j < 8) : de ((dg 8 v).take (j + 1)) = de ((dg 8 v).take j) * 256 + ((dg 8 v).getD j 0).toNat := by
  have hl : j < (dg 8 v).length := by rw [dg_len]; exact h
  rw [List.take_succ_eq_append_getElem hl, de_snoc]
  congr 2
  simp [List.getD_eq_getElem?_getD, hl]
theorem de_take_lt (v j : Nat) (h : j < 8) : de ((dg 8 v).take j) < 72057594037927936 := by
  have h1 := de_lt ((dg 8 v).take j) (fun x hx => dg_range 8 v x (List.mem_of_mem_take hx))
  rw [List.length_take, dg_len, Nat.min_eq_left (by omega)] at h1
  exact Nat.lt_of_lt_of_le h1 (Nat.le_trans (Nat.pow_le_pow_right (by decide) (show j ≤ 7 by omega)) (by decide))
theorem pad_f (n : Nat) (hn : n ≤ 576460752303423488) (a : Int) (ha : mx a 0 = (n : Int)) : digest_Pad.f a = some (strOfNums (padB n)) := by
  unfold digest_Pad.f
  rw [ha, Int.toNat_natCast, if_pos hn]
theorem bt_pad (n : Nat) (i : Int) : bt (strOfNums (padB n)) i = rd (padB n) i := bt_str (R_padB n) i
theorem pads_l1 (n : Nat) (hn : n < 4294967296) (x0 : Int) (hx0 : x0 = (n : Int)) : ∀ m j : Nat, m + j = 8 → umbellaw04_DigestPads.l1 (m + 1) x0 (strOfNums (padB n)) ((de ((dg 8 (8 * n)).take j) : Nat) : Int) ((zr n + 1 + j : Nat) : Int) = some true
  | 0, j, h => by
    have hj : j = 8 := by omega
    subst hj
    have hsz : ((strOfNums (padB n)).size : Int) = ((zr n + 9 : Nat) : Int) := by rw [str_size, padB_len]
    have hde : de ((dg 8 (8 * n)).take 8) = 8 * n := by rw [List.take_of_length_le (by rw [dg_len]; exact Nat.le_refl _), de_dg, Nat.mod_eq_of_lt (by omega)]
    have w1 : IntKind.u64.wrap (8 * IntKind.u64.wrap x0) = ((8 * n : Nat) : Int) := by rw [hx0, IntKind.wrap_u64, IntKind.wrap_u64]; omega
    have w2 : wrap64 (wrap64 (-wrap64 x0) - 1) = -(n : Int) - 1 := by rw [hx0]; unfold wrap64; omega
    rw [umbellaw04_DigestPads.l1, hsz, if_neg (by omega), hde, w1, if_pos rfl, w2, pad_f 0 (by decide) (-(n : Int) - 1) (by unfold mx; split <;> omega), pad_f 0 (by decide) 0 rfl, Option.bind_some, Option.bind_some, if_pos rfl]
    rfl
  | m + 1, j, h => by
    have hsz : ((strOfNums (padB n)).size : Int) = ((zr n + 9 : Nat) : Int) := by rw [str_size, padB_len]
    have hb := dg_range 8 (8 * n) ((dg 8 (8 * n)).getD j 0) (by
      have hl : j < (dg 8 (8 * n)).length := by rw [dg_len]; omega
      simp [List.getD_eq_getElem?_getD, hl])
    have w3 : wrap64 (((zr n + 1 + j : Nat) : Int) + 1) = ((zr n + 1 + (j + 1) : Nat) : Int) := by
      have : zr n ≤ 63 := by unfold zr; omega
      unfold wrap64; omega
    have hlt := de_take_lt (8 * n) j (by omega)
    rw [umbellaw04_DigestPads.l1, hsz, if_pos (by omega), if_pos (by omega), bt_pad, rd_padt, w3]
    obtain ⟨b, hbe⟩ : ∃ b : Nat, (dg 8 (8 * n)).getD j 0 = (b : Int) := ⟨_, (Int.toNat_of_nonneg hb.1).symm⟩
    rw [hbe] at hb ⊢
    rw [or_add _ _ hlt (by omega)]
    have hde := de_take (8 * n) j (by omega)
    rw [hbe, Int.toNat_natCast] at hde
    rw [← hde]
    exact pads_l1 n hn x0 hx0 m (j + 1) (by omega)
theorem pads_l0 (n : Nat) (hn : n < 4294967296) (x0 : Int) (hx0 : x0 = (n : Int)) : ∀ m i : Nat, m + i = zr n + 1 → 1 ≤ i → umbellaw04_DigestPads.l0 (m + 10) x0 (strOfNums (padB n)) (i : Int) = some true
  | 0, i, h, h1 => by
    have hsz : ((strOfNums (padB n)).size : Int) = ((zr n + 9 : Nat) : Int) := by rw [str_size, padB_len]
    have hz : zr n ≤ 63 := by unfold zr; omega
    have w1 : wrap64 (((zr n + 9 : Nat) : Int) - 8) = ((zr n + 1 + 0 : Nat) : Int) := by unfold wrap64; omega
    rw [umbellaw04_DigestPads.l0, hsz, w1, if_neg (by omega)]
    exact pads_l1 n hn x0 hx0 8 0 rfl
  | m + 1, i, h, h1 => by
    have hsz : ((strOfNums (padB n)).size : Int) = ((zr n + 9 : Nat) : Int) := by rw [str_size, padB_len]
    have hz : zr n ≤ 63 := by unfold zr; omega
    have w1 : wrap64 (((zr n + 9 : Nat) : Int) - 8) = ((zr n + 1 : Nat) : Int) := by unfold wrap64; omega
    have w2 : wrap64 ((i : Int) + 1) = ((i + 1 : Nat) : Int) := by unfold wrap64; omega
    rw [show m + 1 + 10 = (m + 10) + 1 by omega, umbellaw04_DigestPads.l0, hsz, w1, if_pos (by omega), if_pos (by omega), if_pos (by omega), bt_pad, rd_padz n i h1 (by omega), if_pos rfl, w2]
    exact pads_l0 n hn x0 hx0 m (i + 1) (by omega) (by omega)
theorem DigestPads : umbellaw04_DigestPads.Pure := by
  intro a0 hw
  have hb := hw
  have hr : 0 ≤ a0 ∧ a0 < 4294967296 := by
    simp [Lit.wf, show IntKind.u32.min = 0 from rfl, show IntKind.u32.max = 4294967295 from rfl] at hb
    omega
  obtain ⟨n, rfl⟩ : ∃ n : Nat, a0 = (n : Int) := ⟨_, (Int.toNat_of_nonneg hr.1).symm⟩
  have hz : zr n ≤ 63 := by unfold zr; omega
  have hsz : ((strOfNums (padB n)).size : Int) = ((zr n + 9 : Nat) : Int) := by rw [str_size, padB_len]
  have w1 : wrap64 (n : Int) = (n : Int) := by unfold wrap64; omega
  have w2 : wrap64 ((n : Int) + ((zr n + 9 : Nat) : Int)) = ((n + (zr n + 9) : Nat) : Int) := by unfold wrap64; omega
  refine ⟨zr n + 11, ?_⟩
  unfold umbellaw04_DigestPads.f
  rw [w1, pad_f n (by omega) n (by unfold mx; split <;> omega), Option.bind_some, hsz, if_neg (by omega), if_neg (by omega), w2, if_pos (by rw [Int.tmod_eq_emod_of_nonneg (by omega)]; have := zr_full n; omega), if_pos (by omega), bt_pad, rd_pad0, umbellaw04_DigestPads.j0, if_neg (by decide)]
  exact pads_l0 n (by omega) n rfl (zr n) 1 (by omega) (by omega)
end Go.Proofs.YtbphehijikdkjaaDoor.Pure
