/-
  Digits are two a byte: the statement about numbers and lists that the printed law leaves.
-/
import Derived.Test.YtbphehijikdkjaaDoorPDglx2
namespace Go.Proofs.YtbphehijikdkjaaDoor.Pure
open Go.RowKit Go.Proofs.YtbphehijikdkjaaDoor.PDgl Go.Proofs.YtbphehijikdkjaaDoorW.PrintWords Go.Proofs.YtbphehijikdkjaaDoorW.PrintLast Go.Proofs.YtbphehijikdkjaaDoorW.PrintMore Go.Proofs.YtbphehijikdkjaaDoor.Str Go.Proofs.YtbphehijikdkjaaDoor.DgsL
set_option linter.unusedVariables false
/-- The half at a place. -/
def half (l : List Int) (i : Nat) : Int := if i % 2 = 0 then rd l ((i / 2 : Nat) : Int) / 16 else rd l ((i / 2 : Nat) : Int) % 16
theorem rd_hex (l : List Int) : ∀ i : Nat, i < 2 * l.length → rd (hexB l) (i : Int) = hx (half l i) := by
  induction l with
  | nil => intro i h; simp at h
  | cons x l ih =>
    intro i h
    match i with
    | 0 => rfl
    | 1 => rfl
    | i + 2 =>
      have h2 := ih i (by simp at h; omega)
      have e1 : rd (hexB (x :: l)) ((i + 2 : Nat) : Int) = rd (hexB l) (i : Int) := by simp only [rd, Int.toNat_natCast]; rfl
      have e2 : half (x :: l) (i + 2) = half l i := by
        have e3 : (i + 2) / 2 = i / 2 + 1 := by omega
        unfold half
        rw [e3, show (i + 2) % 2 = i % 2 by omega]
        simp only [rd, Int.toNat_natCast, List.getD_cons_succ]
      rw [e1, e2, h2]
theorem half_lt (l : List Int) (hl : R l) (i : Nat) (h : i < 2 * l.length) : 0 ≤ half l i ∧ half l i < 16 := by
  have hb : 0 ≤ rd l ((i / 2 : Nat) : Int) ∧ rd l ((i / 2 : Nat) : Int) < 256 := by
    have hj : i / 2 < l.length := by omega
    have := hl (l[i / 2]) (List.getElem_mem hj)
    have e : rd l ((i / 2 : Nat) : Int) = l[i / 2] := by simp only [rd, Int.toNat_natCast, List.getD_eq_getElem?_getD, List.getElem?_eq_getElem hj, Option.getD_some]
    rw [e]; exact this
  unfold half
  split <;> omega
theorem hx_low (n : Int) (h : 0 ≤ n ∧ n < 10) : hx n = 48 + n := by
  have : ∀ k : Fin 10, hx (k.val : Int) = 48 + (k.val : Int) := by decide +kernel
  have h2 := this ⟨n.toNat, by omega⟩
  simpa [Int.toNat_of_nonneg h.1] using h2
theorem hx_high (n : Int) (h : 10 ≤ n ∧ n < 16) : hx n = 87 + n := by
  have : ∀ k : Fin 16, 10 ≤ k.val → hx (k.val : Int) = 87 + (k.val : Int) := by decide +kernel
  have h2 := this ⟨n.toNat, by omega⟩ (by show 10 ≤ n.toNat; omega)
  simpa [Int.toNat_of_nonneg (show 0 ≤ n by omega)] using h2
theorem sh_half (b : Int) (hb : 0 ≤ b ∧ b < 256) (i : Nat) (hi : i < 1000) : Go.bits .and .u8 (shr .u8 b (IntKind.u64.wrap (wrap64 (4 - (wrap64 (4 * (Int.tmod (i : Int) 2))))))) 15 = if i % 2 = 0 then b / 16 else b % 16 := by
  have e : Int.tmod (i : Int) 2 = ((i % 2 : Nat) : Int) := by rw [Int.tmod_eq_emod_of_nonneg (by omega)]; omega
  rw [e]
  by_cases h : i % 2 = 0
  · rw [if_pos h, h]
    have s : shr .u8 b (IntKind.u64.wrap (wrap64 (4 - wrap64 (4 * ((0 : Nat) : Int))))) = b / 16 := by
      rw [show IntKind.u64.wrap (wrap64 (4 - wrap64 (4 * ((0 : Nat) : Int)))) = 4 by decide +kernel]; rfl
    rw [s, and15 _ (by omega), Int.emod_eq_of_lt (by omega) (by omega)]
  · rw [if_neg h, show i % 2 = 1 by omega]
    have s : shr .u8 b (IntKind.u64.wrap (wrap64 (4 - wrap64 (4 * ((1 : Nat) : Int))))) = b := by
      rw [show IntKind.u64.wrap (wrap64 (4 - wrap64 (4 * ((1 : Nat) : Int)))) = 0 by decide +kernel]; unfold shr; simp
    rw [s, and15 _ hb]
theorem bt_byte' (s : ByteArray) (i : Int) : 0 ≤ bt s i ∧ bt s i < 256 := by have := bt_range s i; omega
theorem hexes_l0 (s : ByteArray) (hs : s.size ≤ 500) : ∀ m i : Nat, m + i = 2 * s.size → umbellaw04_DigestHexes.l0 (3 * m + 1) s (strOfNums (hexB (bytesOf s))) (i : Int) = some true
  | 0, i, h => by
    have hsz : ((strOfNums (hexB (bytesOf s))).size : Int) = ((2 * s.size : Nat) : Int) := by rw [str_size, hexB_len, len_bytesOf]
    rw [umbellaw04_DigestHexes.l0, hsz, if_neg (by omega)]
    rfl
  | m + 1, i, h => by
    have hi1000 : i < 1000 := by omega
    have f1 : (i : Int) < ((2 * s.size : Nat) : Int) := by omega
    have f2 : (0 : Int) ≤ (i : Int) := by omega
    have f3 : (0 : Int) ≤ ((i / 2 : Nat) : Int) := by omega
    have f4 : ((i / 2 : Nat) : Int) < (s.size : Int) := by omega
    have f5 : (0 : Int) ≤ IntKind.u64.wrap (wrap64 (4 - (wrap64 (4 * (Int.tmod (i : Int) 2))))) := by rw [IntKind.wrap_u64]; exact Int.emod_nonneg _ (by decide)
    have e3 : 3 * (m + 1) + 1 = 3 * m + 3 + 1 := by omega
    have w2 : wrap64 ((i : Int) + 1) = ((i + 1 : Nat) : Int) := by unfold wrap64; omega
    have w1 : wrap64 (Int.tdiv (i : Int) 2) = ((i / 2 : Nat) : Int) := by rw [Int.tdiv_eq_ediv_of_nonneg (by omega)]; unfold wrap64; omega
    have hi : i < 2 * (bytesOf s).length := by rw [len_bytesOf]; omega
    have nx := hexes_l0 s hs m (i + 1) (by omega)
    have up : umbellaw04_DigestHexes.l0 (3 * m + 2) s (strOfNums (hexB (bytesOf s))) ((i + 1 : Nat) : Int) = some true := (umbellaw04_DigestHexes.mono_l (3 * m + 1)).1 _ _ _ _ nx
    have hsz : ((strOfNums (hexB (bytesOf s))).size : Int) = ((2 * s.size : Nat) : Int) := by rw [str_size, hexB_len, len_bytesOf]
    have hb : bt (strOfNums (hexB (bytesOf s))) (i : Int) = hx (half (bytesOf s) i) := by rw [bt_str (R_hexB (R_bytesOf s)), rd_hex _ i hi]
    have hh := half_lt (bytesOf s) (R_bytesOf s) i hi
    have hsh := sh_half (bt s ((i / 2 : Nat) : Int)) (bt_byte' s ((i / 2 : Nat) : Int)) i hi1000
    have hha : (if i % 2 = 0 then bt s ((i / 2 : Nat) : Int) / 16 else bt s ((i / 2 : Nat) : Int) % 16) = half (bytesOf s) i := by unfold half; rw [bt_rd]
    rw [hha] at hsh
    clear hha hi hi1000 h hs
    generalize half (bytesOf s) i = z at hb hh hsh
    have HSH := Aside0.mk hsh
    clear hsh
    have HW := Aside0.mk (And.intro w1 w2)
    clear w1 w2
    have HF := Aside0.mk (And.intro f3 (And.intro f4 f5))
    clear f3 f4 f5
    rw [e3, umbellaw04_DigestHexes.l0, hsz, hb, if_pos f1, if_pos f2]
    by_cases hl : z < 10
    · have g := hx_low z ⟨hh.1, hl⟩
      have g1 : hx z ≥ 48 := by omega
      have g2 : decide (hx z ≤ 57) = true := decide_eq_true (by omega)
      have g3 : (hx z - 48) % 256 = z := by omega
      rw [if_pos g1, umbellaw04_DigestHexes.j1, if_pos g2, if_pos f2, hsz, if_pos f1, HW.out.1, if_pos HF.out.1, if_pos HF.out.2.1, if_pos HF.out.2.2, hb, g3, HSH.out, if_pos rfl, HW.out.2]
      exact up
    · have g := hx_high z ⟨by omega, hh.2⟩
      have g1 : hx z ≥ 48 := by omega
      have g2 : ¬ decide (hx z ≤ 57) = true := by rw [decide_eq_true_iff]; omega
      have g4 : hx z ≥ 97 := by omega
      have g5 : decide (hx z ≤ 102) = true := decide_eq_true (by omega)
      have g3 : (hx z - 97 + 10) % 256 = z := by omega
      rw [if_pos g1, umbellaw04_DigestHexes.j1, if_neg g2, if_pos f2, hsz, if_pos f1, hb, if_pos g4, umbellaw04_DigestHexes.j2, if_pos g5, if_pos f2, hsz, if_pos f1, HW.out.1, if_pos HF.out.1, if_pos HF.out.2.1, if_pos HF.out.2.2, hb, g3, HSH.out, if_pos rfl, HW.out.2]
      exact nx
theorem DigestHexes : umbellaw04_DigestHexes.Pure := by
  intro s hs
  by_cases h : s.size ≤ 500
  · refine ⟨3 * (2 * s.size) + 1, ?_⟩
    unfold umbellaw04_DigestHexes.f digest_Hex.f
    have hsz : ((strOfNums (hexB (bytesOf s))).size : Int) = ((2 * s.size : Nat) : Int) := by rw [str_size, hexB_len, len_bytesOf]
    have w1 : wrap64 (2 * (s.size : Int)) = ((2 * s.size : Nat) : Int) := by unfold wrap64; omega
    rw [if_neg (by omega), if_pos (by omega), Option.bind_some, hsz, w1, if_pos rfl]
    exact hexes_l0 s h (2 * s.size) 0 (by omega)
  · refine ⟨0, ?_⟩
    unfold umbellaw04_DigestHexes.f
    rw [if_pos (by omega)]
    rfl
end Go.Proofs.YtbphehijikdkjaaDoor.Pure
