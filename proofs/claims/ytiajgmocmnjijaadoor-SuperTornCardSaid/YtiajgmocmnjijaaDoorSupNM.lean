import Derived.Test.YtiajgmocmnjijaaDoorSupW
import Derived.Test.YtiajgmocmnjijaaDoorSupQ
import Derived.Test.YtiajgmocmnjijaaDoorPagS
import Derived.Test.YtiajgmocmnjijaaDoorRowU
import Derived.Deep.DeepMust
import Derived.Test.YtiajgmocmnjijaaDoorSupGM
section
/-
  SuperTorn: plain facts, and the walk for every argument.
-/
namespace Go.Proofs.YtiajgmocmnjijaaDoor.SupN
open Go.RowKit Go.Proofs.YtiajgmocmnjijaaDoor.PSup Go.Proofs.YtiajgmocmnjijaaDoorW.PrintWords Go.Proofs.YtiajgmocmnjijaaDoorW.PrintLast Go.Proofs.YtiajgmocmnjijaaDoorW.PrintMore Go.Proofs.YtiajgmocmnjijaaDoor.Str Go.Proofs.YtiajgmocmnjijaaDoor.SumH Go.Proofs.YtiajgmocmnjijaaDoor.SupP Go.Proofs.YtiajgmocmnjijaaDoor.SupC Go.Proofs.YtiajgmocmnjijaaDoor.SupW Go.Proofs.YtiajgmocmnjijaaDoor.SupR Go.Proofs.YtiajgmocmnjijaaDoor.SupQ Go.Proofs.YtiajgmocmnjijaaDoor.RowU
set_option linter.unusedVariables false
theorem enc_good (s : Sb) : (encR s).2 = decide (goodP s) := by
  by_cases h : goodP s
  · rw [encR, if_pos h, decide_eq_true h]
  · rw [encR, if_neg h, decide_eq_false h]
theorem tail64 (x : Sb) (i : Nat) (h1 : 1 ≤ i) (h4 : i < 4) : ((encL x).drop (64 * i)).take 64 = List.replicate 64 0 := by
  have hd : (sectL x).drop (64 * i) = [] := List.drop_eq_nil_of_le (by rw [sectL_len]; omega)
  rw [encL, List.drop_append, hd, List.nil_append, List.drop_replicate, List.take_replicate, sectL_len, Nat.min_eq_left (by omega)]
theorem piece {s t want : Sb} {F : ByteArray} (i : Nat) (hi : i < 4) (hF : F = strOfNums (encL s) ∨ F = strOfNums (encL t)) (h0 : i = 0 → F = strOfNums (encL want)) : bytesOf (F.extract (64 * i) (64 * i + 64)) = ((encL want).drop (64 * i)).take 64 := by
  have k : ∀ x : Sb, bytesOf ((strOfNums (encL x)).extract (64 * i) (64 * i + 64)) = ((encL x).drop (64 * i)).take 64 := fun x => by
    rw [bytes_extract, bytes_str _ (R_encL x), List.drop_take, Nat.add_sub_cancel_left]
  by_cases hz : i = 0
  · rw [h0 hz, k]
  · rw [tail64 want i (by omega) hi]
    rcases hF with rfl | rfl
    · rw [k, tail64 s i (by omega) hi]
    · rw [k, tail64 t i (by omega) hi]
theorem more (want : Sb) (i : Nat) : (encL want).take (64 * i) ++ ((encL want).drop (64 * i)).take 64 = (encL want).take (64 * (i + 1)) := by
  rw [Nat.mul_add, Nat.mul_one, List.take_add]
theorem take_len (want : Sb) (i : Nat) (h : i ≤ 4) : ((encL want).take (64 * i)).length = 64 * i := by
  rw [List.length_take, encL_len]; omega
theorem info_u8 : ∃ i, Tryd.prog.info? 5 = some i ∧ i.zero = some (.int .u8 0) ∧ i.size = 1 ∧ i.bytes = 1 := ⟨_, rfl, rfl, rfl, rfl⟩
theorem app_str {ops : Array Oper} {rest : List Oper} {o : Oper} {a : Act} {Q : Exit → Act → World → Prop} {W : World} (base : Nat) (hgd : o.guard = none) (x y : Operand) (ho : o.op = .call { callee := .builtin .append, args := #[x, y], argTypes := #[39, 9] })
    (v : Value) (xs : List Int) (F : ByteArray) (hx : a.eval x = v) (hy : a.eval y = .string F) (HO : W.ownsRow base 5 1 v xs.length (nums .u8 xs)) (hbase : base ≤ W.heap.size) (hl : xs.length + F.size ≤ 1000)
    (h : ∀ v1 w1, w1.ownsRow base 5 1 v1 (xs ++ bytesOf F).length (nums .u8 (xs ++ bytesOf F)) → W.grownBy w1 v.ownBlock → wpList Tryd.prog ops Q rest (a.put o.dst v1) w1) : wpList Tryd.prog ops Q (o :: rest) a W := by
  obtain ⟨i, hi, hz, h1, h2⟩ := info_u8
  refine Lib.wpList_append_own_string W hgd x y 39 9 ho base 5 i Tryd.underlying39 Tryd.underlying9 hi hz h1 h2 v xs.length (nums .u8 xs) hx HO F hy (by simp only [maxLen]; omega) (by omega) hbase ?_
  intro v' w' ho' hg _
  have e1 : (xs ++ bytesOf F).length = xs.length + F.size := by rw [List.length_append, len_bytesOf]
  have e2 : nums .u8 (xs ++ bytesOf F) = nums .u8 xs ++ Lib.strCells F := by
    unfold nums
    rw [List.map_append]
    congr 1
    simp [bytesOf, Lib.strCells]
  exact h v' w' (by rw [e1, e2]; exact ho') hg
theorem at57 (n : UInt8) : ∃ k : Nat, (wrap64 (n.toNat : Int)).tmod 57 = (k : Int) ∧ k < 57 := by
  have hn := n.toNat_lt
  have e : wrap64 (n.toNat : Int) = (n.toNat : Int) := by unfold wrap64; omega
  rw [e]
  refine ⟨n.toNat % 57, ?_, by omega⟩
  rw [Int.tmod_eq_emod_of_nonneg (by omega)]; omega
theorem y_at {w : World} {g : Nat} {t : TypeId} (n0 n1 y0 y1 y2 y3 : UInt8) (h : w.heap[g]? = some (.cells #[.int .u8 (n0.toNat : Int), .int .u8 (n1.toNat : Int), .int .u8 (y0.toNat : Int), .int .u8 (y1.toNat : Int), .int .u8 (y2.toNat : Int), .int .u8 (y3.toNat : Int)] t (0, 0))) (i : Nat) (hi : i < 4) :
    ∃ y : UInt8, w.cell? ⟨g, 2 + i, none⟩ = some (.int .u8 (y.toNat : Int)) ∧ [y0, y1, y2, y3][i]? = some y := by
  have hc := blk_cell h (2 + i)
  match i, hi with
  | 0, _ => exact ⟨y0, hc.trans rfl, rfl⟩
  | 1, _ => exact ⟨y1, hc.trans rfl, rfl⟩
  | 2, _ => exact ⟨y2, hc.trans rfl, rfl⟩
  | 3, _ => exact ⟨y3, hc.trans rfl, rfl⟩
theorem row_of {w : World} {base : Nat} {v : Value} {U : ByteArray} (hp : 0 < U.size) (h : w.ownsRow base 5 1 v (bytesOf U).length (nums .u8 (bytesOf U))) : ∃ g cap, v = .slice (some ⟨g, 0, none⟩) U.size cap ∧ base ≤ g ∧ Row w g U.data.toList := by
  have HR : (Kd.int .u8).R 5 w base (fun _ => True) v (bytesOf U) := Kd.R_of_own (enc := Value.int .u8) (h1 := fun _ => rfl) h (fun _ _ => trivial)
  obtain ⟨g, cap, rfl, hb, hg, _⟩ := Kd.R_form HR (by rw [len_bytesOf]; exact hp)
  refine ⟨g, cap, by rw [len_bytesOf], hb, ⟨fun j hj => ?_, fun j hj => ?_⟩⟩
  · have hj2 : j < U.size := by rw [← RowU.data_length U]; exact hj
    have := (Kd.R_celln (0 : Int) HR (j : Int) (by omega) (by rw [len_bytesOf]; omega)).1
    rw [Int.toNat_natCast] at this
    rw [this]
    have hl : j < (bytesOf U).length := by rw [len_bytesOf]; exact hj2
    have e : rdOf 0 (bytesOf U) (j : Int) = ((U.data.toList[j].toNat : Nat) : Int) := by
      unfold rdOf
      rw [Int.toNat_natCast, List.getD_eq_getElem?_getD, List.getElem?_eq_getElem hl]
      simp [bytesOf]
    rw [e]
  · have hj2 : j < U.size := by rw [← RowU.data_length U]; exact hj
    have := (Kd.R_celln (0 : Int) HR (j : Int) (by omega) (by rw [len_bytesOf]; omega)).2
    rw [Int.toNat_natCast] at this
    exact this
theorem putL_inj {a b : Int} (ha : 0 ≤ a ∧ a < 4294967296) (hb : 0 ≤ b ∧ b < 4294967296) (h : putL a = putL b) : a = b := by
  simp only [putL, List.cons.injEq, and_true] at h
  omega
theorem txt_bytes (l : List UInt8) : bytesOf (txt l) = l.map fun b => (b.toNat : Int) := by
  simp [bytesOf, txt]
theorem sum_of {T : ByteArray} {s : Sb} {m tl : List UInt8} (h : isSup T s) (hT : T = txt (m ++ tl)) (hm : m.length = 60) : (tl.take 4).map (fun b => (b.toNat : Int)) = putL ((Crc.crc 0 m : Nat) : Int) := by
  have h1 := first_bytes h
  rw [hT, txt_bytes, List.map_append, List.take_append, List.length_map, hm, List.take_of_length_le (by rw [List.length_map, hm]; decide), sectL] at h1
  have h2 := List.append_inj h1 (by rw [List.length_map, hm, bodyS_len])
  rw [List.map_take, h2.2, ← h2.1, ← txt_eq, crcI, txt_data]
theorem torn_none {U T : ByteArray} {want : Sb} (hU : isSup U want) {M0 m tl ys : List UInt8} {k : Nat} (h0 : M0 ++ tl = U.data.toList) (hM : M0.length = 60) (hm : m.length = 60) (hT : T = txt (m ++ tl)) (hy : ys.length = 4) (hk : k ≤ 60)
    (hle : Crc.leNum m = Crc.leNum M0 ^^^ (2 ^ (8 * k) * Crc.leNum ys)) (hd : ¬ Crc.leNum ys = 0) : decR T = (Sb.zero, false) := by
  refine dec_neg fun s' h => hd ?_
  have h1 := sum_of h hT hm
  have h2 := sum_of hU (m := M0) (tl := tl) (str_ext (by rw [txt_data, h0])) hM
  have r := fun l => Crc.crc_lt 0 l (by decide)
  have h3 := putL_inj (by have := r m; omega) (by have := r M0; omega) (h1.symm.trans h2)
  exact (Crc.burst4 M0 m ys k hy (by rw [hM]; exact hk) (by rw [hm, hM]) hle).1 (by omega)
theorem bit_u8 (n i : Nat) (hn : n < 256) : Go.bits .and .u8 ((n : Int) / 2 ^ i) 1 = ((n / 2 ^ i % 2 : Nat) : Int) := by
  have hq : n / 2 ^ i < 256 := Nat.lt_of_le_of_lt (Nat.div_le_self _ _) hn
  have e : ((n : Int) / 2 ^ i) = ((n / 2 ^ i : Nat) : Int) := by rw [Int.natCast_ediv, Int.natCast_pow]; rfl
  rw [e]
  generalize n / 2 ^ i = q at hq ⊢
  have := bits_mask .u8 8 (by decide) (fun n h0 h1 => by rw [IntKind.wrap_u8]; omega) 1 (by decide) (q : Int) (by omega) (by omega)
  have e2 : ((2 : Int) ^ 1 - 1) = 1 := rfl
  rw [e2] at this
  rw [this]; omega
theorem bit0_u8 (n : Nat) (hn : n < 256) : Go.bits .and .u8 (n : Int) 1 = ((n % 2 : Nat) : Int) := by
  have := bit_u8 n 0 hn
  simpa using this
theorem own_more {w1 : World} {base : Nat} {v1 : Value} {want : Sb} {i : Nat} {F : ByteArray} {l : List Int} (hl : l = bytesOf F) (h : w1.ownsRow base 5 1 v1 ((encL want).take (64 * i) ++ bytesOf F).length (nums .u8 ((encL want).take (64 * i) ++ bytesOf F))) (hF : bytesOf F = ((encL want).drop (64 * i)).take 64) :
    w1.ownsRow base 5 1 v1 ((encL want).take (64 * (i + 1))).length (nums .u8 ((encL want).take (64 * (i + 1)))) := by
  rw [hF, more] at h; exact h
theorem flag (y0 y1 y2 y3 y : UInt8) (i : Nat) (hi : i < 4) (hy : [y0, y1, y2, y3][i]? = some y) : (Crc.leNum ([y0, y1, y2, y3].take (i + 1)) = 0) ↔ (Crc.leNum ([y0, y1, y2, y3].take i) = 0 ∧ y.toNat = 0) := by
  have a0 := y0.toNat_lt; have a1 := y1.toNat_lt; have a2 := y2.toNat_lt; have a3 := y3.toNat_lt
  rcases (by omega : i = 0 ∨ i = 1 ∨ i = 2 ∨ i = 3) with rfl | rfl | rfl | rfl
  · have e_ : y0 = y := Option.some.inj (show some y0 = some y from hy)
    rw [← e_]
    rw [show [y0, y1, y2, y3].take (0 + 1) = [y0] from rfl, show [y0, y1, y2, y3].take 0 = [] from rfl]; simp only [Crc.leNum, true_and]; omega
  · have e_ : y1 = y := Option.some.inj (show some y1 = some y from hy)
    rw [← e_]
    rw [show [y0, y1, y2, y3].take (1 + 1) = [y0, y1] from rfl, show [y0, y1, y2, y3].take 1 = [y0] from rfl]; simp only [Crc.leNum]; refine ⟨fun h => by omega, fun h => by omega⟩
  · have e_ : y2 = y := Option.some.inj (show some y2 = some y from hy)
    rw [← e_]
    rw [show [y0, y1, y2, y3].take (2 + 1) = [y0, y1, y2] from rfl, show [y0, y1, y2, y3].take 2 = [y0, y1] from rfl]; simp only [Crc.leNum]; refine ⟨fun h => by omega, fun h => by omega⟩
  · have e_ : y3 = y := Option.some.inj (show some y3 = some y from hy)
    rw [← e_]
    rw [show [y0, y1, y2, y3].take (3 + 1) = [y0, y1, y2, y3] from rfl, show [y0, y1, y2, y3].take 3 = [y0, y1, y2] from rfl]; simp only [Crc.leNum]; omega
theorem bit_cond (n i : Nat) (hn : n < 256) (hi : i < 4) : (Go.bits .and .u8 ((n : Int) / 2 ^ min (IntKind.u64.wrap (i : Int)).toNat 8) 1 == 1) = decide (n / 2 ^ i % 2 = 1) := by
  have e : min (IntKind.u64.wrap (i : Int)).toNat 8 = i := by rw [IntKind.wrap_u64]; omega
  rw [e, bit_u8 n i hn, Bool.eq_iff_iff, beq_iff_eq, decide_eq_true_iff]
  generalize n / 2 ^ i = q
  omega
theorem bit_cond0 (n : Nat) (hn : n < 256) : (Go.bits .and .u8 (n : Int) 1 == 1) = decide (n % 2 = 1) := by
  rw [bit0_u8 n hn, Bool.eq_iff_iff, beq_iff_eq, decide_eq_true_iff]
  omega
theorem conv_row {w1 : World} {B n C : Nat} {L : List UInt8} (hn : n = L.length) (h1 : Row w1 B L) : (convert 39 9 (.slice (some ⟨B, 0, none⟩) n C)).run Tryd.prog w1 = .ok (.string (txt L)) w1 := by
  rw [txt_eq]
  refine run_convert_bytes_arg w1 _ 5 Tryd.underlying39 Tryd.underlying5 B 0 n C _ (by rw [List.length_map, hn]) (fun j hj => ?_) _ Tryd.underlying9
  have hjl : j < L.length := by rw [← hn]; exact hj
  rw [Nat.zero_add, h1.cell j hjl]
  simp only [List.getD_eq_getElem?_getD, List.getElem?_map, List.getElem?_eq_getElem hjl, Option.map_some, Option.getD_some]
theorem own_all {w1 : World} {base : Nat} {v1 : Value} {want : Sb} {U : ByteArray} (hU : U = strOfNums (encL want)) (h : w1.ownsRow base 5 1 v1 ((encL want).take (64 * 4)).length (nums .u8 ((encL want).take (64 * 4)))) :
    ∃ g cap, v1 = .slice (some ⟨g, 0, none⟩) 256 cap ∧ base ≤ g ∧ Row w1 g U.data.toList := by
  have e : (encL want).take (64 * 4) = bytesOf U := by rw [hU, bytes_str _ (R_encL want), List.take_of_length_le (by rw [encL_len]; decide)]
  have hs : U.size = 256 := by rw [hU, str_size, encL_len]
  rw [e] at h
  have := row_of (by rw [hs]; decide) h
  rw [hs] at this
  exact this
theorem flag_next {y0 y1 y2 y3 y : UInt8} {i : Nat} (hi : i < 4) (hy : [y0, y1, y2, y3][i]? = some y) {b : Bool} (hb : b = false ↔ Crc.leNum ([y0, y1, y2, y3].take i) = 0) {c : Bool} (hc : c = false ↔ (b = false ∧ y.toNat = 0)) : c = false ↔ Crc.leNum ([y0, y1, y2, y3].take (i + 1)) = 0 := by
  rw [flag y0 y1 y2 y3 y i hi hy, hc, hb]
set_option maxRecDepth 100000 in
set_option maxHeartbeats 16000000 in
theorem walk (s t : Sb) (n0 n1 y0 y1 y2 y3 : UInt8) (w : World) (hG : Glob w) :
    Calls Tryd.prog 7 #[.agg #[.int .i64 s.q, .int .i64 s.g, .int .i64 s.l, .int .i64 s.r, .int .i64 s.t, .int .i64 s.c], .agg #[.int .i64 t.q, .int .i64 t.g, .int .i64 t.l, .int .i64 t.r, .int .i64 t.t, .int .i64 t.c], .agg #[.int .u8 (n0.toNat : Int), .int .u8 (n1.toNat : Int), .int .u8 (y0.toNat : Int), .int .u8 (y1.toNat : Int), .int .u8 (y2.toNat : Int), .int .u8 (y3.toNat : Int)]] w fun e w' => e = .returned (.bool true) ∧ Below w.heap.size w w' := by
  have HG := Aside0.mk hG
  clear hG
  have HB := Aside0.mk (Below.refl w.heap.size w)
  have hu43 := Tryd.underlying43
  have hu57 := Tryd.underlying57
  have hu39 := Tryd.underlying39
  have CW := Lib.hid wakes_c
  have CS := Lib.hid fun W hG => enc_c s W hG
  have CT := Lib.hid fun W hG => enc_c t W hG
  have GS := Lib.hid fun W => rgood_c s W
  have GT := Lib.hid fun W => rgood_c t W
  rw [← enc_good t] at GT
  by_cases h1 : goodP s
  rotate_left
  · rw [encR, if_neg h1] at CS; dsimp only at CS
    rw [decide_eq_false h1] at GS; clear h1
    obtain ⟨⟨e1, e2⟩, hy⟩ : ∃ y, y = encR t := ⟨_, rfl⟩
    rw [← hy] at CT GT; dsimp only at CT GT; clear hy
    go_enter Tryd.func7, Tryd.ntmps7
    go_wp2_with (first | ((with_reducible refine gate_dst (N := 3) rfl ?_); (try (refine gate_guard (by rfl) ?_; dsimp only)); refine box_event ?hg (N := 3) ?hd (cs := #[.int .i64 s.q, .int .i64 s.g, .int .i64 s.l, .int .i64 s.r, .int .i64 s.t, .int .i64 s.c]) (t := 43) ?hr ?_; (case hd => rfl); (case hg => rfl); (case hr => first | (go_simp; done) | (go_simp; rfl)); intro gs hg v1 hbox hb; have n0_ := Aside0.mk (by rw [hg]; exact below_size (by repeat (first | (with_reducible first | exact HB.out | apply below_alloc | apply pw_below_drewN | apply below_drew1) | exact HB.out)) : w.heap.size ≤ gs); have n1_ := Aside0.mk (below_step (by repeat (first | (with_reducible first | exact HB.out | apply below_alloc | apply pw_below_drewN | apply below_drew1) | exact HB.out)) hb); have n2_ := Aside0.mk hbox; clear HB; have GEgs := n0_; clear n0_; have HB := n1_; clear n1_; have BKgs := n2_; clear n2_; clear hb hbox hg; have hcz1 : v1.cell? ⟨gs, 0, none⟩ = some (.int .i64 s.q) := (blk_cell BKgs.out 0).trans rfl; have hfz1 := blk_frozen BKgs.out 0; have hcz2 : v1.cell? ⟨gs, 1, none⟩ = some (.int .i64 s.g) := (blk_cell BKgs.out 1).trans rfl; have hfz2 := blk_frozen BKgs.out 1; have hcz3 : v1.cell? ⟨gs, 2, none⟩ = some (.int .i64 s.l) := (blk_cell BKgs.out 2).trans rfl; have hfz3 := blk_frozen BKgs.out 2; have hcz4 : v1.cell? ⟨gs, 3, none⟩ = some (.int .i64 s.r) := (blk_cell BKgs.out 3).trans rfl; have hfz4 := blk_frozen BKgs.out 3; have hcz5 : v1.cell? ⟨gs, 4, none⟩ = some (.int .i64 s.t) := (blk_cell BKgs.out 4).trans rfl; have hfz5 := blk_frozen BKgs.out 4; have hcz6 : v1.cell? ⟨gs, 5, none⟩ = some (.int .i64 s.c) := (blk_cell BKgs.out 5).trans rfl; have hfz6 := blk_frozen BKgs.out 5) | ((with_reducible refine gate_dst (N := 4) rfl ?_); (try (refine gate_guard (by rfl) ?_; dsimp only)); refine box_event ?hg (N := 4) ?hd (cs := #[.int .i64 t.q, .int .i64 t.g, .int .i64 t.l, .int .i64 t.r, .int .i64 t.t, .int .i64 t.c]) (t := 43) ?hr ?_; (case hd => rfl); (case hg => rfl); (case hr => first | (go_simp; done) | (go_simp; rfl)); intro gt hg v2 hbox hb; have n0_ := Aside0.mk (by rw [hg]; exact Nat.ne_of_lt (blk_lt (g := gs) (o := .cells #[.int .i64 s.q, .int .i64 s.g, .int .i64 s.l, .int .i64 s.r, .int .i64 s.t, .int .i64 s.c] 43 (0, 0)) (by (with_reducible repeat (first | refine blk_drewN ?_ _ | refine blk_drew ?_ | refine blk_alloc ?_ _)); exact BKgs.out)) : gs ≠ gt); have n1_ := Aside0.mk (by rw [hg]; exact Nat.ne_of_gt (blk_lt (g := gs) (o := .cells #[.int .i64 s.q, .int .i64 s.g, .int .i64 s.l, .int .i64 s.r, .int .i64 s.t, .int .i64 s.c] 43 (0, 0)) (by (with_reducible repeat (first | refine blk_drewN ?_ _ | refine blk_drew ?_ | refine blk_alloc ?_ _)); exact BKgs.out)) : gt ≠ gs); have n2_ := Aside0.mk (by rw [hg]; exact below_size (by repeat (first | (with_reducible first | exact HB.out | apply below_alloc | apply pw_below_drewN | apply below_drew1 | refine below_set ?_ GEgs.out) | exact HB.out)) : w.heap.size ≤ gt); have n3_ := Aside0.mk (blk_below (g := gs) (o := .cells #[.int .i64 s.q, .int .i64 s.g, .int .i64 s.l, .int .i64 s.r, .int .i64 s.t, .int .i64 s.c] 43 (0, 0)) (by (with_reducible repeat (first | refine blk_drewN ?_ _ | refine blk_drew ?_ | refine blk_alloc ?_ _)); exact BKgs.out) hb); have n4_ := Aside0.mk (below_step (by repeat (first | (with_reducible first | exact HB.out | apply below_alloc | apply pw_below_drewN | apply below_drew1 | refine below_set ?_ GEgs.out) | exact HB.out)) hb); have n5_ := Aside0.mk hbox; clear hcz1 hfz1 hcz2 hfz2 hcz3 hfz3 hcz4 hfz4 hcz5 hfz5 hcz6 hfz6; clear BKgs; clear HB; have NBgs_gt := n0_; clear n0_; have NBgt_gs := n1_; clear n1_; have GEgt := n2_; clear n2_; have BKgs := n3_; clear n3_; have HB := n4_; clear n4_; have BKgt := n5_; clear n5_; clear hb hbox hg; have hcz7 : v2.cell? ⟨gs, 0, none⟩ = some (.int .i64 s.q) := (blk_cell BKgs.out 0).trans rfl; have hfz7 := blk_frozen BKgs.out 0; have hcz8 : v2.cell? ⟨gs, 1, none⟩ = some (.int .i64 s.g) := (blk_cell BKgs.out 1).trans rfl; have hfz8 := blk_frozen BKgs.out 1; have hcz9 : v2.cell? ⟨gs, 2, none⟩ = some (.int .i64 s.l) := (blk_cell BKgs.out 2).trans rfl; have hfz9 := blk_frozen BKgs.out 2; have hcz10 : v2.cell? ⟨gs, 3, none⟩ = some (.int .i64 s.r) := (blk_cell BKgs.out 3).trans rfl; have hfz10 := blk_frozen BKgs.out 3; have hcz11 : v2.cell? ⟨gs, 4, none⟩ = some (.int .i64 s.t) := (blk_cell BKgs.out 4).trans rfl; have hfz11 := blk_frozen BKgs.out 4; have hcz12 : v2.cell? ⟨gs, 5, none⟩ = some (.int .i64 s.c) := (blk_cell BKgs.out 5).trans rfl; have hfz12 := blk_frozen BKgs.out 5; have hcz13 : v2.cell? ⟨gt, 0, none⟩ = some (.int .i64 t.q) := (blk_cell BKgt.out 0).trans rfl; have hfz13 := blk_frozen BKgt.out 0; have hcz14 : v2.cell? ⟨gt, 1, none⟩ = some (.int .i64 t.g) := (blk_cell BKgt.out 1).trans rfl; have hfz14 := blk_frozen BKgt.out 1; have hcz15 : v2.cell? ⟨gt, 2, none⟩ = some (.int .i64 t.l) := (blk_cell BKgt.out 2).trans rfl; have hfz15 := blk_frozen BKgt.out 2; have hcz16 : v2.cell? ⟨gt, 3, none⟩ = some (.int .i64 t.r) := (blk_cell BKgt.out 3).trans rfl; have hfz16 := blk_frozen BKgt.out 3; have hcz17 : v2.cell? ⟨gt, 4, none⟩ = some (.int .i64 t.t) := (blk_cell BKgt.out 4).trans rfl; have hfz17 := blk_frozen BKgt.out 4; have hcz18 : v2.cell? ⟨gt, 5, none⟩ = some (.int .i64 t.c) := (blk_cell BKgt.out 5).trans rfl; have hfz18 := blk_frozen BKgt.out 5) | ((with_reducible refine gate_dst (N := 5) rfl ?_); (try (refine gate_guard (by rfl) ?_; dsimp only)); refine box_event ?hg (N := 5) ?hd (cs := #[.int .u8 (n0.toNat : Int), .int .u8 (n1.toNat : Int), .int .u8 (y0.toNat : Int), .int .u8 (y1.toNat : Int), .int .u8 (y2.toNat : Int), .int .u8 (y3.toNat : Int)]) (t := 57) ?hr ?_; (case hd => rfl); (case hg => rfl); (case hr => first | (go_simp; done) | (go_simp; rfl)); intro gn hg v3 hbox hb; have n0_ := Aside0.mk (by rw [hg]; exact Nat.ne_of_lt (blk_lt (g := gs) (o := .cells #[.int .i64 s.q, .int .i64 s.g, .int .i64 s.l, .int .i64 s.r, .int .i64 s.t, .int .i64 s.c] 43 (0, 0)) (by (with_reducible repeat (first | refine blk_drewN ?_ _ | refine blk_drew ?_ | refine blk_alloc ?_ _)); exact BKgs.out)) : gs ≠ gn); have n1_ := Aside0.mk (by rw [hg]; exact Nat.ne_of_gt (blk_lt (g := gs) (o := .cells #[.int .i64 s.q, .int .i64 s.g, .int .i64 s.l, .int .i64 s.r, .int .i64 s.t, .int .i64 s.c] 43 (0, 0)) (by (with_reducible repeat (first | refine blk_drewN ?_ _ | refine blk_drew ?_ | refine blk_alloc ?_ _)); exact BKgs.out)) : gn ≠ gs); have n2_ := Aside0.mk (by rw [hg]; exact Nat.ne_of_lt (blk_lt (g := gt) (o := .cells #[.int .i64 t.q, .int .i64 t.g, .int .i64 t.l, .int .i64 t.r, .int .i64 t.t, .int .i64 t.c] 43 (0, 0)) (by (with_reducible repeat (first | refine blk_drewN ?_ _ | refine blk_drew ?_ | refine blk_alloc ?_ _)); exact BKgt.out)) : gt ≠ gn); have n3_ := Aside0.mk (by rw [hg]; exact Nat.ne_of_gt (blk_lt (g := gt) (o := .cells #[.int .i64 t.q, .int .i64 t.g, .int .i64 t.l, .int .i64 t.r, .int .i64 t.t, .int .i64 t.c] 43 (0, 0)) (by (with_reducible repeat (first | refine blk_drewN ?_ _ | refine blk_drew ?_ | refine blk_alloc ?_ _)); exact BKgt.out)) : gn ≠ gt); have n4_ := Aside0.mk (by rw [hg]; exact below_size (by repeat (first | (with_reducible first | exact HB.out | apply below_alloc | apply pw_below_drewN | apply below_drew1 | refine below_set ?_ GEgs.out | refine below_set ?_ GEgt.out) | exact HB.out)) : w.heap.size ≤ gn); have n5_ := Aside0.mk (blk_below (g := gs) (o := .cells #[.int .i64 s.q, .int .i64 s.g, .int .i64 s.l, .int .i64 s.r, .int .i64 s.t, .int .i64 s.c] 43 (0, 0)) (by (with_reducible repeat (first | refine blk_drewN ?_ _ | refine blk_drew ?_ | refine blk_alloc ?_ _)); exact BKgs.out) hb); have n6_ := Aside0.mk (blk_below (g := gt) (o := .cells #[.int .i64 t.q, .int .i64 t.g, .int .i64 t.l, .int .i64 t.r, .int .i64 t.t, .int .i64 t.c] 43 (0, 0)) (by (with_reducible repeat (first | refine blk_drewN ?_ _ | refine blk_drew ?_ | refine blk_alloc ?_ _)); exact BKgt.out) hb); have n7_ := Aside0.mk (below_step (by repeat (first | (with_reducible first | exact HB.out | apply below_alloc | apply pw_below_drewN | apply below_drew1 | refine below_set ?_ GEgs.out | refine below_set ?_ GEgt.out) | exact HB.out)) hb); have n8_ := Aside0.mk hbox; clear hcz7 hfz7 hcz8 hfz8 hcz9 hfz9 hcz10 hfz10 hcz11 hfz11 hcz12 hfz12 hcz13 hfz13 hcz14 hfz14 hcz15 hfz15 hcz16 hfz16 hcz17 hfz17 hcz18 hfz18; clear BKgs; clear BKgt; clear HB; have NBgs_gn := n0_; clear n0_; have NBgn_gs := n1_; clear n1_; have NBgt_gn := n2_; clear n2_; have NBgn_gt := n3_; clear n3_; have GEgn := n4_; clear n4_; have BKgs := n5_; clear n5_; have BKgt := n6_; clear n6_; have HB := n7_; clear n7_; have BKgn := n8_; clear n8_; clear hb hbox hg; have hcz19 : v3.cell? ⟨gs, 0, none⟩ = some (.int .i64 s.q) := (blk_cell BKgs.out 0).trans rfl; have hfz19 := blk_frozen BKgs.out 0; have hcz20 : v3.cell? ⟨gs, 1, none⟩ = some (.int .i64 s.g) := (blk_cell BKgs.out 1).trans rfl; have hfz20 := blk_frozen BKgs.out 1; have hcz21 : v3.cell? ⟨gs, 2, none⟩ = some (.int .i64 s.l) := (blk_cell BKgs.out 2).trans rfl; have hfz21 := blk_frozen BKgs.out 2; have hcz22 : v3.cell? ⟨gs, 3, none⟩ = some (.int .i64 s.r) := (blk_cell BKgs.out 3).trans rfl; have hfz22 := blk_frozen BKgs.out 3; have hcz23 : v3.cell? ⟨gs, 4, none⟩ = some (.int .i64 s.t) := (blk_cell BKgs.out 4).trans rfl; have hfz23 := blk_frozen BKgs.out 4; have hcz24 : v3.cell? ⟨gs, 5, none⟩ = some (.int .i64 s.c) := (blk_cell BKgs.out 5).trans rfl; have hfz24 := blk_frozen BKgs.out 5))
    with_reducible refine (CS.out _ (Glob.below HG.out (by repeat (first | (with_reducible first | exact HB.out | apply below_alloc | apply pw_below_drewN | apply below_drew1 | refine below_set ?_ GEgs.out | refine below_set ?_ GEgt.out | refine below_set ?_ GEgn.out) | exact HB.out)))).mono ?_
    rintro e v4 ⟨rfl, hb⟩
    have n0_ := Aside0.mk (blk_below (g := gs) (o := .cells #[.int .i64 s.q, .int .i64 s.g, .int .i64 s.l, .int .i64 s.r, .int .i64 s.t, .int .i64 s.c] 43 (0, 0)) (by (with_reducible repeat (first | refine blk_drewN ?_ _ | refine blk_drew ?_ | refine blk_alloc ?_ _)); exact BKgs.out) hb)
    have n1_ := Aside0.mk (blk_below (g := gt) (o := .cells #[.int .i64 t.q, .int .i64 t.g, .int .i64 t.l, .int .i64 t.r, .int .i64 t.t, .int .i64 t.c] 43 (0, 0)) (by (with_reducible repeat (first | refine blk_drewN ?_ _ | refine blk_drew ?_ | refine blk_alloc ?_ _)); exact BKgt.out) hb)
    have n2_ := Aside0.mk (blk_below (g := gn) (o := .cells #[.int .u8 (n0.toNat : Int), .int .u8 (n1.toNat : Int), .int .u8 (y0.toNat : Int), .int .u8 (y1.toNat : Int), .int .u8 (y2.toNat : Int), .int .u8 (y3.toNat : Int)] 57 (0, 0)) (by (with_reducible repeat (first | refine blk_drewN ?_ _ | refine blk_drew ?_ | refine blk_alloc ?_ _)); exact BKgn.out) hb)
    have n3_ := Aside0.mk (below_step (by repeat (first | (with_reducible first | exact HB.out | apply below_alloc | apply pw_below_drewN | apply below_drew1 | refine below_set ?_ GEgs.out | refine below_set ?_ GEgt.out | refine below_set ?_ GEgn.out) | exact HB.out)) hb)
    clear hcz19 hfz19 hcz20 hfz20 hcz21 hfz21 hcz22 hfz22 hcz23 hfz23 hcz24 hfz24
    clear BKgs
    clear BKgt
    clear BKgn
    clear HB
    have BKgs := n0_; clear n0_
    have BKgt := n1_; clear n1_
    have BKgn := n2_; clear n2_
    have HB := n3_; clear n3_
    (try clear hb)
    have hcz25 : v4.cell? ⟨gt, 0, none⟩ = some (.int .i64 t.q) := (blk_cell BKgt.out 0).trans rfl
    have hfz25 := blk_frozen BKgt.out 0
    have hcz26 : v4.cell? ⟨gt, 1, none⟩ = some (.int .i64 t.g) := (blk_cell BKgt.out 1).trans rfl
    have hfz26 := blk_frozen BKgt.out 1
    have hcz27 : v4.cell? ⟨gt, 2, none⟩ = some (.int .i64 t.l) := (blk_cell BKgt.out 2).trans rfl
    have hfz27 := blk_frozen BKgt.out 2
    have hcz28 : v4.cell? ⟨gt, 3, none⟩ = some (.int .i64 t.r) := (blk_cell BKgt.out 3).trans rfl
    have hfz28 := blk_frozen BKgt.out 3
    have hcz29 : v4.cell? ⟨gt, 4, none⟩ = some (.int .i64 t.t) := (blk_cell BKgt.out 4).trans rfl
    have hfz29 := blk_frozen BKgt.out 4
    have hcz30 : v4.cell? ⟨gt, 5, none⟩ = some (.int .i64 t.c) := (blk_cell BKgt.out 5).trans rfl
    have hfz30 := blk_frozen BKgt.out 5
    go_wp2_with fail
    with_reducible refine (CT.out _ (Glob.below HG.out (by repeat (first | (with_reducible first | exact HB.out | apply below_alloc | apply pw_below_drewN | apply below_drew1 | refine below_set ?_ GEgs.out | refine below_set ?_ GEgt.out | refine below_set ?_ GEgn.out) | exact HB.out)))).mono ?_
    rintro e v5 ⟨rfl, hb⟩
    have n0_ := Aside0.mk (blk_below (g := gs) (o := .cells #[.int .i64 s.q, .int .i64 s.g, .int .i64 s.l, .int .i64 s.r, .int .i64 s.t, .int .i64 s.c] 43 (0, 0)) (by (with_reducible repeat (first | refine blk_drewN ?_ _ | refine blk_drew ?_ | refine blk_alloc ?_ _)); exact BKgs.out) hb)
    have n1_ := Aside0.mk (blk_below (g := gt) (o := .cells #[.int .i64 t.q, .int .i64 t.g, .int .i64 t.l, .int .i64 t.r, .int .i64 t.t, .int .i64 t.c] 43 (0, 0)) (by (with_reducible repeat (first | refine blk_drewN ?_ _ | refine blk_drew ?_ | refine blk_alloc ?_ _)); exact BKgt.out) hb)
    have n2_ := Aside0.mk (blk_below (g := gn) (o := .cells #[.int .u8 (n0.toNat : Int), .int .u8 (n1.toNat : Int), .int .u8 (y0.toNat : Int), .int .u8 (y1.toNat : Int), .int .u8 (y2.toNat : Int), .int .u8 (y3.toNat : Int)] 57 (0, 0)) (by (with_reducible repeat (first | refine blk_drewN ?_ _ | refine blk_drew ?_ | refine blk_alloc ?_ _)); exact BKgn.out) hb)
    have n3_ := Aside0.mk (below_step (by repeat (first | (with_reducible first | exact HB.out | apply below_alloc | apply pw_below_drewN | apply below_drew1 | refine below_set ?_ GEgs.out | refine below_set ?_ GEgt.out | refine below_set ?_ GEgn.out) | exact HB.out)) hb)
    clear hcz25 hfz25 hcz26 hfz26 hcz27 hfz27 hcz28 hfz28 hcz29 hfz29 hcz30 hfz30
    clear BKgs
    clear BKgt
    clear BKgn
    clear HB
    have BKgs := n0_; clear n0_
    have BKgt := n1_; clear n1_
    have BKgn := n2_; clear n2_
    have HB := n3_; clear n3_
    (try clear hb)
    have hcz31 : v5.cell? ⟨gs, 0, none⟩ = some (.int .i64 s.q) := (blk_cell BKgs.out 0).trans rfl
    have hfz31 := blk_frozen BKgs.out 0
    have hcz32 : v5.cell? ⟨gs, 1, none⟩ = some (.int .i64 s.g) := (blk_cell BKgs.out 1).trans rfl
    have hfz32 := blk_frozen BKgs.out 1
    have hcz33 : v5.cell? ⟨gs, 2, none⟩ = some (.int .i64 s.l) := (blk_cell BKgs.out 2).trans rfl
    have hfz33 := blk_frozen BKgs.out 2
    have hcz34 : v5.cell? ⟨gs, 3, none⟩ = some (.int .i64 s.r) := (blk_cell BKgs.out 3).trans rfl
    have hfz34 := blk_frozen BKgs.out 3
    have hcz35 : v5.cell? ⟨gs, 4, none⟩ = some (.int .i64 s.t) := (blk_cell BKgs.out 4).trans rfl
    have hfz35 := blk_frozen BKgs.out 4
    have hcz36 : v5.cell? ⟨gs, 5, none⟩ = some (.int .i64 s.c) := (blk_cell BKgs.out 5).trans rfl
    have hfz36 := blk_frozen BKgs.out 5
    have hcz37 : v5.cell? ⟨gt, 0, none⟩ = some (.int .i64 t.q) := (blk_cell BKgt.out 0).trans rfl
    have hfz37 := blk_frozen BKgt.out 0
    have hcz38 : v5.cell? ⟨gt, 1, none⟩ = some (.int .i64 t.g) := (blk_cell BKgt.out 1).trans rfl
    have hfz38 := blk_frozen BKgt.out 1
    have hcz39 : v5.cell? ⟨gt, 2, none⟩ = some (.int .i64 t.l) := (blk_cell BKgt.out 2).trans rfl
    have hfz39 := blk_frozen BKgt.out 2
    have hcz40 : v5.cell? ⟨gt, 3, none⟩ = some (.int .i64 t.r) := (blk_cell BKgt.out 3).trans rfl
    have hfz40 := blk_frozen BKgt.out 3
    have hcz41 : v5.cell? ⟨gt, 4, none⟩ = some (.int .i64 t.t) := (blk_cell BKgt.out 4).trans rfl
    have hfz41 := blk_frozen BKgt.out 4
    have hcz42 : v5.cell? ⟨gt, 5, none⟩ = some (.int .i64 t.c) := (blk_cell BKgt.out 5).trans rfl
    have hfz42 := blk_frozen BKgt.out 5
    go_wp2_with fail
    with_reducible refine (GS.out _).mono ?_
    rintro e v6 ⟨rfl, hb⟩
    have n0_ := Aside0.mk (blk_below (g := gs) (o := .cells #[.int .i64 s.q, .int .i64 s.g, .int .i64 s.l, .int .i64 s.r, .int .i64 s.t, .int .i64 s.c] 43 (0, 0)) (by (with_reducible repeat (first | refine blk_drewN ?_ _ | refine blk_drew ?_ | refine blk_alloc ?_ _)); exact BKgs.out) hb)
    have n1_ := Aside0.mk (blk_below (g := gt) (o := .cells #[.int .i64 t.q, .int .i64 t.g, .int .i64 t.l, .int .i64 t.r, .int .i64 t.t, .int .i64 t.c] 43 (0, 0)) (by (with_reducible repeat (first | refine blk_drewN ?_ _ | refine blk_drew ?_ | refine blk_alloc ?_ _)); exact BKgt.out) hb)
    have n2_ := Aside0.mk (blk_below (g := gn) (o := .cells #[.int .u8 (n0.toNat : Int), .int .u8 (n1.toNat : Int), .int .u8 (y0.toNat : Int), .int .u8 (y1.toNat : Int), .int .u8 (y2.toNat : Int), .int .u8 (y3.toNat : Int)] 57 (0, 0)) (by (with_reducible repeat (first | refine blk_drewN ?_ _ | refine blk_drew ?_ | refine blk_alloc ?_ _)); exact BKgn.out) hb)
    have n3_ := Aside0.mk (below_step (by repeat (first | (with_reducible first | exact HB.out | apply below_alloc | apply pw_below_drewN | apply below_drew1 | refine below_set ?_ GEgs.out | refine below_set ?_ GEgt.out | refine below_set ?_ GEgn.out) | exact HB.out)) hb)
    clear hcz31 hfz31 hcz32 hfz32 hcz33 hfz33 hcz34 hfz34 hcz35 hfz35 hcz36 hfz36 hcz37 hfz37 hcz38 hfz38 hcz39 hfz39 hcz40 hfz40 hcz41 hfz41 hcz42 hfz42
    clear BKgs
    clear BKgt
    clear BKgn
    clear HB
    have BKgs := n0_; clear n0_
    have BKgt := n1_; clear n1_
    have BKgn := n2_; clear n2_
    have HB := n3_; clear n3_
    (try clear hb)
    have hcz43 : v6.cell? ⟨gt, 0, none⟩ = some (.int .i64 t.q) := (blk_cell BKgt.out 0).trans rfl
    have hfz43 := blk_frozen BKgt.out 0
    have hcz44 : v6.cell? ⟨gt, 1, none⟩ = some (.int .i64 t.g) := (blk_cell BKgt.out 1).trans rfl
    have hfz44 := blk_frozen BKgt.out 1
    have hcz45 : v6.cell? ⟨gt, 2, none⟩ = some (.int .i64 t.l) := (blk_cell BKgt.out 2).trans rfl
    have hfz45 := blk_frozen BKgt.out 2
    have hcz46 : v6.cell? ⟨gt, 3, none⟩ = some (.int .i64 t.r) := (blk_cell BKgt.out 3).trans rfl
    have hfz46 := blk_frozen BKgt.out 3
    have hcz47 : v6.cell? ⟨gt, 4, none⟩ = some (.int .i64 t.t) := (blk_cell BKgt.out 4).trans rfl
    have hfz47 := blk_frozen BKgt.out 4
    have hcz48 : v6.cell? ⟨gt, 5, none⟩ = some (.int .i64 t.c) := (blk_cell BKgt.out 5).trans rfl
    have hfz48 := blk_frozen BKgt.out 5
    go_wp2_with fail
    with_reducible refine (GT.out _).mono ?_
    rintro e v7 ⟨rfl, hb⟩
    have n0_ := Aside0.mk (blk_below (g := gs) (o := .cells #[.int .i64 s.q, .int .i64 s.g, .int .i64 s.l, .int .i64 s.r, .int .i64 s.t, .int .i64 s.c] 43 (0, 0)) (by (with_reducible repeat (first | refine blk_drewN ?_ _ | refine blk_drew ?_ | refine blk_alloc ?_ _)); exact BKgs.out) hb)
    have n1_ := Aside0.mk (blk_below (g := gt) (o := .cells #[.int .i64 t.q, .int .i64 t.g, .int .i64 t.l, .int .i64 t.r, .int .i64 t.t, .int .i64 t.c] 43 (0, 0)) (by (with_reducible repeat (first | refine blk_drewN ?_ _ | refine blk_drew ?_ | refine blk_alloc ?_ _)); exact BKgt.out) hb)
    have n2_ := Aside0.mk (blk_below (g := gn) (o := .cells #[.int .u8 (n0.toNat : Int), .int .u8 (n1.toNat : Int), .int .u8 (y0.toNat : Int), .int .u8 (y1.toNat : Int), .int .u8 (y2.toNat : Int), .int .u8 (y3.toNat : Int)] 57 (0, 0)) (by (with_reducible repeat (first | refine blk_drewN ?_ _ | refine blk_drew ?_ | refine blk_alloc ?_ _)); exact BKgn.out) hb)
    have n3_ := Aside0.mk (below_step (by repeat (first | (with_reducible first | exact HB.out | apply below_alloc | apply pw_below_drewN | apply below_drew1 | refine below_set ?_ GEgs.out | refine below_set ?_ GEgt.out | refine below_set ?_ GEgn.out) | exact HB.out)) hb)
    clear hcz43 hfz43 hcz44 hfz44 hcz45 hfz45 hcz46 hfz46 hcz47 hfz47 hcz48 hfz48
    clear BKgs
    clear BKgt
    clear BKgn
    clear HB
    have BKgs := n0_; clear n0_
    have BKgt := n1_; clear n1_
    have BKgn := n2_; clear n2_
    have HB := n3_; clear n3_
    (try clear hb)
    go_wp2_with fail
    with_reducible refine (CW.out _ (Glob.below HG.out (by repeat (first | (with_reducible first | exact HB.out | apply below_alloc | apply pw_below_drewN | apply below_drew1 | refine below_set ?_ GEgs.out | refine below_set ?_ GEgt.out | refine below_set ?_ GEgn.out) | exact HB.out)))).mono ?_
    rintro e v8 ⟨rfl, hb⟩
    have n0_ := Aside0.mk (blk_below (g := gs) (o := .cells #[.int .i64 s.q, .int .i64 s.g, .int .i64 s.l, .int .i64 s.r, .int .i64 s.t, .int .i64 s.c] 43 (0, 0)) (by (with_reducible repeat (first | refine blk_drewN ?_ _ | refine blk_drew ?_ | refine blk_alloc ?_ _)); exact BKgs.out) hb)
    have n1_ := Aside0.mk (blk_below (g := gt) (o := .cells #[.int .i64 t.q, .int .i64 t.g, .int .i64 t.l, .int .i64 t.r, .int .i64 t.t, .int .i64 t.c] 43 (0, 0)) (by (with_reducible repeat (first | refine blk_drewN ?_ _ | refine blk_drew ?_ | refine blk_alloc ?_ _)); exact BKgt.out) hb)
    have n2_ := Aside0.mk (blk_below (g := gn) (o := .cells #[.int .u8 (n0.toNat : Int), .int .u8 (n1.toNat : Int), .int .u8 (y0.toNat : Int), .int .u8 (y1.toNat : Int), .int .u8 (y2.toNat : Int), .int .u8 (y3.toNat : Int)] 57 (0, 0)) (by (with_reducible repeat (first | refine blk_drewN ?_ _ | refine blk_drew ?_ | refine blk_alloc ?_ _)); exact BKgn.out) hb)
    have n3_ := Aside0.mk (below_step (by repeat (first | (with_reducible first | exact HB.out | apply below_alloc | apply pw_below_drewN | apply below_drew1 | refine below_set ?_ GEgs.out | refine below_set ?_ GEgt.out | refine below_set ?_ GEgn.out) | exact HB.out)) hb)
    clear BKgs
    clear BKgt
    clear BKgn
    clear HB
    have BKgs := n0_; clear n0_
    have BKgt := n1_; clear n1_
    have BKgn := n2_; clear n2_
    have HB := n3_; clear n3_
    (try clear hb)
    go_wp2_with fail
    go_ret
    exact ⟨rfl, by repeat (first | (with_reducible first | exact HB.out | apply below_alloc | apply pw_below_drewN | apply below_drew1 | refine below_set ?_ GEgs.out | refine below_set ?_ GEgt.out | refine below_set ?_ GEgn.out) | exact HB.out)⟩
  by_cases h2 : goodP t
  rotate_left
  · rw [encR, if_pos h1] at CS; dsimp only at CS
    rw [decide_eq_true h1] at GS; rw [encR, if_neg h2] at CT GT; dsimp only at CT GT; clear h1 h2
    go_enter Tryd.func7, Tryd.ntmps7
    go_wp2_with (first | ((with_reducible refine gate_dst (N := 3) rfl ?_); (try (refine gate_guard (by rfl) ?_; dsimp only)); refine box_event ?hg (N := 3) ?hd (cs := #[.int .i64 s.q, .int .i64 s.g, .int .i64 s.l, .int .i64 s.r, .int .i64 s.t, .int .i64 s.c]) (t := 43) ?hr ?_; (case hd => rfl); (case hg => rfl); (case hr => first | (go_simp; done) | (go_simp; rfl)); intro gs hg v1 hbox hb; have n0_ := Aside0.mk (by rw [hg]; exact below_size (by repeat (first | (with_reducible first | exact HB.out | apply below_alloc | apply pw_below_drewN | apply below_drew1) | exact HB.out)) : w.heap.size ≤ gs); have n1_ := Aside0.mk (below_step (by repeat (first | (with_reducible first | exact HB.out | apply below_alloc | apply pw_below_drewN | apply below_drew1) | exact HB.out)) hb); have n2_ := Aside0.mk hbox; clear HB; have GEgs := n0_; clear n0_; have HB := n1_; clear n1_; have BKgs := n2_; clear n2_; clear hb hbox hg; have hcz1 : v1.cell? ⟨gs, 0, none⟩ = some (.int .i64 s.q) := (blk_cell BKgs.out 0).trans rfl; have hfz1 := blk_frozen BKgs.out 0; have hcz2 : v1.cell? ⟨gs, 1, none⟩ = some (.int .i64 s.g) := (blk_cell BKgs.out 1).trans rfl; have hfz2 := blk_frozen BKgs.out 1; have hcz3 : v1.cell? ⟨gs, 2, none⟩ = some (.int .i64 s.l) := (blk_cell BKgs.out 2).trans rfl; have hfz3 := blk_frozen BKgs.out 2; have hcz4 : v1.cell? ⟨gs, 3, none⟩ = some (.int .i64 s.r) := (blk_cell BKgs.out 3).trans rfl; have hfz4 := blk_frozen BKgs.out 3; have hcz5 : v1.cell? ⟨gs, 4, none⟩ = some (.int .i64 s.t) := (blk_cell BKgs.out 4).trans rfl; have hfz5 := blk_frozen BKgs.out 4; have hcz6 : v1.cell? ⟨gs, 5, none⟩ = some (.int .i64 s.c) := (blk_cell BKgs.out 5).trans rfl; have hfz6 := blk_frozen BKgs.out 5) | ((with_reducible refine gate_dst (N := 4) rfl ?_); (try (refine gate_guard (by rfl) ?_; dsimp only)); refine box_event ?hg (N := 4) ?hd (cs := #[.int .i64 t.q, .int .i64 t.g, .int .i64 t.l, .int .i64 t.r, .int .i64 t.t, .int .i64 t.c]) (t := 43) ?hr ?_; (case hd => rfl); (case hg => rfl); (case hr => first | (go_simp; done) | (go_simp; rfl)); intro gt hg v2 hbox hb; have n0_ := Aside0.mk (by rw [hg]; exact Nat.ne_of_lt (blk_lt (g := gs) (o := .cells #[.int .i64 s.q, .int .i64 s.g, .int .i64 s.l, .int .i64 s.r, .int .i64 s.t, .int .i64 s.c] 43 (0, 0)) (by (with_reducible repeat (first | refine blk_drewN ?_ _ | refine blk_drew ?_ | refine blk_alloc ?_ _)); exact BKgs.out)) : gs ≠ gt); have n1_ := Aside0.mk (by rw [hg]; exact Nat.ne_of_gt (blk_lt (g := gs) (o := .cells #[.int .i64 s.q, .int .i64 s.g, .int .i64 s.l, .int .i64 s.r, .int .i64 s.t, .int .i64 s.c] 43 (0, 0)) (by (with_reducible repeat (first | refine blk_drewN ?_ _ | refine blk_drew ?_ | refine blk_alloc ?_ _)); exact BKgs.out)) : gt ≠ gs); have n2_ := Aside0.mk (by rw [hg]; exact below_size (by repeat (first | (with_reducible first | exact HB.out | apply below_alloc | apply pw_below_drewN | apply below_drew1 | refine below_set ?_ GEgs.out) | exact HB.out)) : w.heap.size ≤ gt); have n3_ := Aside0.mk (blk_below (g := gs) (o := .cells #[.int .i64 s.q, .int .i64 s.g, .int .i64 s.l, .int .i64 s.r, .int .i64 s.t, .int .i64 s.c] 43 (0, 0)) (by (with_reducible repeat (first | refine blk_drewN ?_ _ | refine blk_drew ?_ | refine blk_alloc ?_ _)); exact BKgs.out) hb); have n4_ := Aside0.mk (below_step (by repeat (first | (with_reducible first | exact HB.out | apply below_alloc | apply pw_below_drewN | apply below_drew1 | refine below_set ?_ GEgs.out) | exact HB.out)) hb); have n5_ := Aside0.mk hbox; clear hcz1 hfz1 hcz2 hfz2 hcz3 hfz3 hcz4 hfz4 hcz5 hfz5 hcz6 hfz6; clear BKgs; clear HB; have NBgs_gt := n0_; clear n0_; have NBgt_gs := n1_; clear n1_; have GEgt := n2_; clear n2_; have BKgs := n3_; clear n3_; have HB := n4_; clear n4_; have BKgt := n5_; clear n5_; clear hb hbox hg; have hcz7 : v2.cell? ⟨gs, 0, none⟩ = some (.int .i64 s.q) := (blk_cell BKgs.out 0).trans rfl; have hfz7 := blk_frozen BKgs.out 0; have hcz8 : v2.cell? ⟨gs, 1, none⟩ = some (.int .i64 s.g) := (blk_cell BKgs.out 1).trans rfl; have hfz8 := blk_frozen BKgs.out 1; have hcz9 : v2.cell? ⟨gs, 2, none⟩ = some (.int .i64 s.l) := (blk_cell BKgs.out 2).trans rfl; have hfz9 := blk_frozen BKgs.out 2; have hcz10 : v2.cell? ⟨gs, 3, none⟩ = some (.int .i64 s.r) := (blk_cell BKgs.out 3).trans rfl; have hfz10 := blk_frozen BKgs.out 3; have hcz11 : v2.cell? ⟨gs, 4, none⟩ = some (.int .i64 s.t) := (blk_cell BKgs.out 4).trans rfl; have hfz11 := blk_frozen BKgs.out 4; have hcz12 : v2.cell? ⟨gs, 5, none⟩ = some (.int .i64 s.c) := (blk_cell BKgs.out 5).trans rfl; have hfz12 := blk_frozen BKgs.out 5; have hcz13 : v2.cell? ⟨gt, 0, none⟩ = some (.int .i64 t.q) := (blk_cell BKgt.out 0).trans rfl; have hfz13 := blk_frozen BKgt.out 0; have hcz14 : v2.cell? ⟨gt, 1, none⟩ = some (.int .i64 t.g) := (blk_cell BKgt.out 1).trans rfl; have hfz14 := blk_frozen BKgt.out 1; have hcz15 : v2.cell? ⟨gt, 2, none⟩ = some (.int .i64 t.l) := (blk_cell BKgt.out 2).trans rfl; have hfz15 := blk_frozen BKgt.out 2; have hcz16 : v2.cell? ⟨gt, 3, none⟩ = some (.int .i64 t.r) := (blk_cell BKgt.out 3).trans rfl; have hfz16 := blk_frozen BKgt.out 3; have hcz17 : v2.cell? ⟨gt, 4, none⟩ = some (.int .i64 t.t) := (blk_cell BKgt.out 4).trans rfl; have hfz17 := blk_frozen BKgt.out 4; have hcz18 : v2.cell? ⟨gt, 5, none⟩ = some (.int .i64 t.c) := (blk_cell BKgt.out 5).trans rfl; have hfz18 := blk_frozen BKgt.out 5) | ((with_reducible refine gate_dst (N := 5) rfl ?_); (try (refine gate_guard (by rfl) ?_; dsimp only)); refine box_event ?hg (N := 5) ?hd (cs := #[.int .u8 (n0.toNat : Int), .int .u8 (n1.toNat : Int), .int .u8 (y0.toNat : Int), .int .u8 (y1.toNat : Int), .int .u8 (y2.toNat : Int), .int .u8 (y3.toNat : Int)]) (t := 57) ?hr ?_; (case hd => rfl); (case hg => rfl); (case hr => first | (go_simp; done) | (go_simp; rfl)); intro gn hg v3 hbox hb; have n0_ := Aside0.mk (by rw [hg]; exact Nat.ne_of_lt (blk_lt (g := gs) (o := .cells #[.int .i64 s.q, .int .i64 s.g, .int .i64 s.l, .int .i64 s.r, .int .i64 s.t, .int .i64 s.c] 43 (0, 0)) (by (with_reducible repeat (first | refine blk_drewN ?_ _ | refine blk_drew ?_ | refine blk_alloc ?_ _)); exact BKgs.out)) : gs ≠ gn); have n1_ := Aside0.mk (by rw [hg]; exact Nat.ne_of_gt (blk_lt (g := gs) (o := .cells #[.int .i64 s.q, .int .i64 s.g, .int .i64 s.l, .int .i64 s.r, .int .i64 s.t, .int .i64 s.c] 43 (0, 0)) (by (with_reducible repeat (first | refine blk_drewN ?_ _ | refine blk_drew ?_ | refine blk_alloc ?_ _)); exact BKgs.out)) : gn ≠ gs); have n2_ := Aside0.mk (by rw [hg]; exact Nat.ne_of_lt (blk_lt (g := gt) (o := .cells #[.int .i64 t.q, .int .i64 t.g, .int .i64 t.l, .int .i64 t.r, .int .i64 t.t, .int .i64 t.c] 43 (0, 0)) (by (with_reducible repeat (first | refine blk_drewN ?_ _ | refine blk_drew ?_ | refine blk_alloc ?_ _)); exact BKgt.out)) : gt ≠ gn); have n3_ := Aside0.mk (by rw [hg]; exact Nat.ne_of_gt (blk_lt (g := gt) (o := .cells #[.int .i64 t.q, .int .i64 t.g, .int .i64 t.l, .int .i64 t.r, .int .i64 t.t, .int .i64 t.c] 43 (0, 0)) (by (with_reducible repeat (first | refine blk_drewN ?_ _ | refine blk_drew ?_ | refine blk_alloc ?_ _)); exact BKgt.out)) : gn ≠ gt); have n4_ := Aside0.mk (by rw [hg]; exact below_size (by repeat (first | (with_reducible first | exact HB.out | apply below_alloc | apply pw_below_drewN | apply below_drew1 | refine below_set ?_ GEgs.out | refine below_set ?_ GEgt.out) | exact HB.out)) : w.heap.size ≤ gn); have n5_ := Aside0.mk (blk_below (g := gs) (o := .cells #[.int .i64 s.q, .int .i64 s.g, .int .i64 s.l, .int .i64 s.r, .int .i64 s.t, .int .i64 s.c] 43 (0, 0)) (by (with_reducible repeat (first | refine blk_drewN ?_ _ | refine blk_drew ?_ | refine blk_alloc ?_ _)); exact BKgs.out) hb); have n6_ := Aside0.mk (blk_below (g := gt) (o := .cells #[.int .i64 t.q, .int .i64 t.g, .int .i64 t.l, .int .i64 t.r, .int .i64 t.t, .int .i64 t.c] 43 (0, 0)) (by (with_reducible repeat (first | refine blk_drewN ?_ _ | refine blk_drew ?_ | refine blk_alloc ?_ _)); exact BKgt.out) hb); have n7_ := Aside0.mk (below_step (by repeat (first | (with_reducible first | exact HB.out | apply below_alloc | apply pw_below_drewN | apply below_drew1 | refine below_set ?_ GEgs.out | refine below_set ?_ GEgt.out) | exact HB.out)) hb); have n8_ := Aside0.mk hbox; clear hcz7 hfz7 hcz8 hfz8 hcz9 hfz9 hcz10 hfz10 hcz11 hfz11 hcz12 hfz12 hcz13 hfz13 hcz14 hfz14 hcz15 hfz15 hcz16 hfz16 hcz17 hfz17 hcz18 hfz18; clear BKgs; clear BKgt; clear HB; have NBgs_gn := n0_; clear n0_; have NBgn_gs := n1_; clear n1_; have NBgt_gn := n2_; clear n2_; have NBgn_gt := n3_; clear n3_; have GEgn := n4_; clear n4_; have BKgs := n5_; clear n5_; have BKgt := n6_; clear n6_; have HB := n7_; clear n7_; have BKgn := n8_; clear n8_; clear hb hbox hg; have hcz19 : v3.cell? ⟨gs, 0, none⟩ = some (.int .i64 s.q) := (blk_cell BKgs.out 0).trans rfl; have hfz19 := blk_frozen BKgs.out 0; have hcz20 : v3.cell? ⟨gs, 1, none⟩ = some (.int .i64 s.g) := (blk_cell BKgs.out 1).trans rfl; have hfz20 := blk_frozen BKgs.out 1; have hcz21 : v3.cell? ⟨gs, 2, none⟩ = some (.int .i64 s.l) := (blk_cell BKgs.out 2).trans rfl; have hfz21 := blk_frozen BKgs.out 2; have hcz22 : v3.cell? ⟨gs, 3, none⟩ = some (.int .i64 s.r) := (blk_cell BKgs.out 3).trans rfl; have hfz22 := blk_frozen BKgs.out 3; have hcz23 : v3.cell? ⟨gs, 4, none⟩ = some (.int .i64 s.t) := (blk_cell BKgs.out 4).trans rfl; have hfz23 := blk_frozen BKgs.out 4; have hcz24 : v3.cell? ⟨gs, 5, none⟩ = some (.int .i64 s.c) := (blk_cell BKgs.out 5).trans rfl; have hfz24 := blk_frozen BKgs.out 5))
    with_reducible refine (CS.out _ (Glob.below HG.out (by repeat (first | (with_reducible first | exact HB.out | apply below_alloc | apply pw_below_drewN | apply below_drew1 | refine below_set ?_ GEgs.out | refine below_set ?_ GEgt.out | refine below_set ?_ GEgn.out) | exact HB.out)))).mono ?_
    rintro e v4 ⟨rfl, hb⟩
    have n0_ := Aside0.mk (blk_below (g := gs) (o := .cells #[.int .i64 s.q, .int .i64 s.g, .int .i64 s.l, .int .i64 s.r, .int .i64 s.t, .int .i64 s.c] 43 (0, 0)) (by (with_reducible repeat (first | refine blk_drewN ?_ _ | refine blk_drew ?_ | refine blk_alloc ?_ _)); exact BKgs.out) hb)
    have n1_ := Aside0.mk (blk_below (g := gt) (o := .cells #[.int .i64 t.q, .int .i64 t.g, .int .i64 t.l, .int .i64 t.r, .int .i64 t.t, .int .i64 t.c] 43 (0, 0)) (by (with_reducible repeat (first | refine blk_drewN ?_ _ | refine blk_drew ?_ | refine blk_alloc ?_ _)); exact BKgt.out) hb)
    have n2_ := Aside0.mk (blk_below (g := gn) (o := .cells #[.int .u8 (n0.toNat : Int), .int .u8 (n1.toNat : Int), .int .u8 (y0.toNat : Int), .int .u8 (y1.toNat : Int), .int .u8 (y2.toNat : Int), .int .u8 (y3.toNat : Int)] 57 (0, 0)) (by (with_reducible repeat (first | refine blk_drewN ?_ _ | refine blk_drew ?_ | refine blk_alloc ?_ _)); exact BKgn.out) hb)
    have n3_ := Aside0.mk (below_step (by repeat (first | (with_reducible first | exact HB.out | apply below_alloc | apply pw_below_drewN | apply below_drew1 | refine below_set ?_ GEgs.out | refine below_set ?_ GEgt.out | refine below_set ?_ GEgn.out) | exact HB.out)) hb)
    clear hcz19 hfz19 hcz20 hfz20 hcz21 hfz21 hcz22 hfz22 hcz23 hfz23 hcz24 hfz24
    clear BKgs
    clear BKgt
    clear BKgn
    clear HB
    have BKgs := n0_; clear n0_
    have BKgt := n1_; clear n1_
    have BKgn := n2_; clear n2_
    have HB := n3_; clear n3_
    (try clear hb)
    have hcz25 : v4.cell? ⟨gt, 0, none⟩ = some (.int .i64 t.q) := (blk_cell BKgt.out 0).trans rfl
    have hfz25 := blk_frozen BKgt.out 0
    have hcz26 : v4.cell? ⟨gt, 1, none⟩ = some (.int .i64 t.g) := (blk_cell BKgt.out 1).trans rfl
    have hfz26 := blk_frozen BKgt.out 1
    have hcz27 : v4.cell? ⟨gt, 2, none⟩ = some (.int .i64 t.l) := (blk_cell BKgt.out 2).trans rfl
    have hfz27 := blk_frozen BKgt.out 2
    have hcz28 : v4.cell? ⟨gt, 3, none⟩ = some (.int .i64 t.r) := (blk_cell BKgt.out 3).trans rfl
    have hfz28 := blk_frozen BKgt.out 3
    have hcz29 : v4.cell? ⟨gt, 4, none⟩ = some (.int .i64 t.t) := (blk_cell BKgt.out 4).trans rfl
    have hfz29 := blk_frozen BKgt.out 4
    have hcz30 : v4.cell? ⟨gt, 5, none⟩ = some (.int .i64 t.c) := (blk_cell BKgt.out 5).trans rfl
    have hfz30 := blk_frozen BKgt.out 5
    go_wp2_with fail
    with_reducible refine (CT.out _ (Glob.below HG.out (by repeat (first | (with_reducible first | exact HB.out | apply below_alloc | apply pw_below_drewN | apply below_drew1 | refine below_set ?_ GEgs.out | refine below_set ?_ GEgt.out | refine below_set ?_ GEgn.out) | exact HB.out)))).mono ?_
    rintro e v5 ⟨rfl, hb⟩
    have n0_ := Aside0.mk (blk_below (g := gs) (o := .cells #[.int .i64 s.q, .int .i64 s.g, .int .i64 s.l, .int .i64 s.r, .int .i64 s.t, .int .i64 s.c] 43 (0, 0)) (by (with_reducible repeat (first | refine blk_drewN ?_ _ | refine blk_drew ?_ | refine blk_alloc ?_ _)); exact BKgs.out) hb)
    have n1_ := Aside0.mk (blk_below (g := gt) (o := .cells #[.int .i64 t.q, .int .i64 t.g, .int .i64 t.l, .int .i64 t.r, .int .i64 t.t, .int .i64 t.c] 43 (0, 0)) (by (with_reducible repeat (first | refine blk_drewN ?_ _ | refine blk_drew ?_ | refine blk_alloc ?_ _)); exact BKgt.out) hb)
    have n2_ := Aside0.mk (blk_below (g := gn) (o := .cells #[.int .u8 (n0.toNat : Int), .int .u8 (n1.toNat : Int), .int .u8 (y0.toNat : Int), .int .u8 (y1.toNat : Int), .int .u8 (y2.toNat : Int), .int .u8 (y3.toNat : Int)] 57 (0, 0)) (by (with_reducible repeat (first | refine blk_drewN ?_ _ | refine blk_drew ?_ | refine blk_alloc ?_ _)); exact BKgn.out) hb)
    have n3_ := Aside0.mk (below_step (by repeat (first | (with_reducible first | exact HB.out | apply below_alloc | apply pw_below_drewN | apply below_drew1 | refine below_set ?_ GEgs.out | refine below_set ?_ GEgt.out | refine below_set ?_ GEgn.out) | exact HB.out)) hb)
    clear hcz25 hfz25 hcz26 hfz26 hcz27 hfz27 hcz28 hfz28 hcz29 hfz29 hcz30 hfz30
    clear BKgs
    clear BKgt
    clear BKgn
    clear HB
    have BKgs := n0_; clear n0_
    have BKgt := n1_; clear n1_
    have BKgn := n2_; clear n2_
    have HB := n3_; clear n3_
    (try clear hb)
    have hcz31 : v5.cell? ⟨gs, 0, none⟩ = some (.int .i64 s.q) := (blk_cell BKgs.out 0).trans rfl
    have hfz31 := blk_frozen BKgs.out 0
    have hcz32 : v5.cell? ⟨gs, 1, none⟩ = some (.int .i64 s.g) := (blk_cell BKgs.out 1).trans rfl
    have hfz32 := blk_frozen BKgs.out 1
    have hcz33 : v5.cell? ⟨gs, 2, none⟩ = some (.int .i64 s.l) := (blk_cell BKgs.out 2).trans rfl
    have hfz33 := blk_frozen BKgs.out 2
    have hcz34 : v5.cell? ⟨gs, 3, none⟩ = some (.int .i64 s.r) := (blk_cell BKgs.out 3).trans rfl
    have hfz34 := blk_frozen BKgs.out 3
    have hcz35 : v5.cell? ⟨gs, 4, none⟩ = some (.int .i64 s.t) := (blk_cell BKgs.out 4).trans rfl
    have hfz35 := blk_frozen BKgs.out 4
    have hcz36 : v5.cell? ⟨gs, 5, none⟩ = some (.int .i64 s.c) := (blk_cell BKgs.out 5).trans rfl
    have hfz36 := blk_frozen BKgs.out 5
    have hcz37 : v5.cell? ⟨gt, 0, none⟩ = some (.int .i64 t.q) := (blk_cell BKgt.out 0).trans rfl
    have hfz37 := blk_frozen BKgt.out 0
    have hcz38 : v5.cell? ⟨gt, 1, none⟩ = some (.int .i64 t.g) := (blk_cell BKgt.out 1).trans rfl
    have hfz38 := blk_frozen BKgt.out 1
    have hcz39 : v5.cell? ⟨gt, 2, none⟩ = some (.int .i64 t.l) := (blk_cell BKgt.out 2).trans rfl
    have hfz39 := blk_frozen BKgt.out 2
    have hcz40 : v5.cell? ⟨gt, 3, none⟩ = some (.int .i64 t.r) := (blk_cell BKgt.out 3).trans rfl
    have hfz40 := blk_frozen BKgt.out 3
    have hcz41 : v5.cell? ⟨gt, 4, none⟩ = some (.int .i64 t.t) := (blk_cell BKgt.out 4).trans rfl
    have hfz41 := blk_frozen BKgt.out 4
    have hcz42 : v5.cell? ⟨gt, 5, none⟩ = some (.int .i64 t.c) := (blk_cell BKgt.out 5).trans rfl
    have hfz42 := blk_frozen BKgt.out 5
    go_wp2_with fail
    with_reducible refine (GS.out _).mono ?_
    rintro e v6 ⟨rfl, hb⟩
    have n0_ := Aside0.mk (blk_below (g := gs) (o := .cells #[.int .i64 s.q, .int .i64 s.g, .int .i64 s.l, .int .i64 s.r, .int .i64 s.t, .int .i64 s.c] 43 (0, 0)) (by (with_reducible repeat (first | refine blk_drewN ?_ _ | refine blk_drew ?_ | refine blk_alloc ?_ _)); exact BKgs.out) hb)
    have n1_ := Aside0.mk (blk_below (g := gt) (o := .cells #[.int .i64 t.q, .int .i64 t.g, .int .i64 t.l, .int .i64 t.r, .int .i64 t.t, .int .i64 t.c] 43 (0, 0)) (by (with_reducible repeat (first | refine blk_drewN ?_ _ | refine blk_drew ?_ | refine blk_alloc ?_ _)); exact BKgt.out) hb)
    have n2_ := Aside0.mk (blk_below (g := gn) (o := .cells #[.int .u8 (n0.toNat : Int), .int .u8 (n1.toNat : Int), .int .u8 (y0.toNat : Int), .int .u8 (y1.toNat : Int), .int .u8 (y2.toNat : Int), .int .u8 (y3.toNat : Int)] 57 (0, 0)) (by (with_reducible repeat (first | refine blk_drewN ?_ _ | refine blk_drew ?_ | refine blk_alloc ?_ _)); exact BKgn.out) hb)
    have n3_ := Aside0.mk (below_step (by repeat (first | (with_reducible first | exact HB.out | apply below_alloc | apply pw_below_drewN | apply below_drew1 | refine below_set ?_ GEgs.out | refine below_set ?_ GEgt.out | refine below_set ?_ GEgn.out) | exact HB.out)) hb)
    clear hcz31 hfz31 hcz32 hfz32 hcz33 hfz33 hcz34 hfz34 hcz35 hfz35 hcz36 hfz36 hcz37 hfz37 hcz38 hfz38 hcz39 hfz39 hcz40 hfz40 hcz41 hfz41 hcz42 hfz42
    clear BKgs
    clear BKgt
    clear BKgn
    clear HB
    have BKgs := n0_; clear n0_
    have BKgt := n1_; clear n1_
    have BKgn := n2_; clear n2_
    have HB := n3_; clear n3_
    (try clear hb)
    have hcz43 : v6.cell? ⟨gt, 0, none⟩ = some (.int .i64 t.q) := (blk_cell BKgt.out 0).trans rfl
    have hfz43 := blk_frozen BKgt.out 0
    have hcz44 : v6.cell? ⟨gt, 1, none⟩ = some (.int .i64 t.g) := (blk_cell BKgt.out 1).trans rfl
    have hfz44 := blk_frozen BKgt.out 1
    have hcz45 : v6.cell? ⟨gt, 2, none⟩ = some (.int .i64 t.l) := (blk_cell BKgt.out 2).trans rfl
    have hfz45 := blk_frozen BKgt.out 2
    have hcz46 : v6.cell? ⟨gt, 3, none⟩ = some (.int .i64 t.r) := (blk_cell BKgt.out 3).trans rfl
    have hfz46 := blk_frozen BKgt.out 3
    have hcz47 : v6.cell? ⟨gt, 4, none⟩ = some (.int .i64 t.t) := (blk_cell BKgt.out 4).trans rfl
    have hfz47 := blk_frozen BKgt.out 4
    have hcz48 : v6.cell? ⟨gt, 5, none⟩ = some (.int .i64 t.c) := (blk_cell BKgt.out 5).trans rfl
    have hfz48 := blk_frozen BKgt.out 5
    go_wp2_with fail
    with_reducible refine (GT.out _).mono ?_
    rintro e v7 ⟨rfl, hb⟩
    have n0_ := Aside0.mk (blk_below (g := gs) (o := .cells #[.int .i64 s.q, .int .i64 s.g, .int .i64 s.l, .int .i64 s.r, .int .i64 s.t, .int .i64 s.c] 43 (0, 0)) (by (with_reducible repeat (first | refine blk_drewN ?_ _ | refine blk_drew ?_ | refine blk_alloc ?_ _)); exact BKgs.out) hb)
    have n1_ := Aside0.mk (blk_below (g := gt) (o := .cells #[.int .i64 t.q, .int .i64 t.g, .int .i64 t.l, .int .i64 t.r, .int .i64 t.t, .int .i64 t.c] 43 (0, 0)) (by (with_reducible repeat (first | refine blk_drewN ?_ _ | refine blk_drew ?_ | refine blk_alloc ?_ _)); exact BKgt.out) hb)
    have n2_ := Aside0.mk (blk_below (g := gn) (o := .cells #[.int .u8 (n0.toNat : Int), .int .u8 (n1.toNat : Int), .int .u8 (y0.toNat : Int), .int .u8 (y1.toNat : Int), .int .u8 (y2.toNat : Int), .int .u8 (y3.toNat : Int)] 57 (0, 0)) (by (with_reducible repeat (first | refine blk_drewN ?_ _ | refine blk_drew ?_ | refine blk_alloc ?_ _)); exact BKgn.out) hb)
    have n3_ := Aside0.mk (below_step (by repeat (first | (with_reducible first | exact HB.out | apply below_alloc | apply pw_below_drewN | apply below_drew1 | refine below_set ?_ GEgs.out | refine below_set ?_ GEgt.out | refine below_set ?_ GEgn.out) | exact HB.out)) hb)
    clear hcz43 hfz43 hcz44 hfz44 hcz45 hfz45 hcz46 hfz46 hcz47 hfz47 hcz48 hfz48
    clear BKgs
    clear BKgt
    clear BKgn
    clear HB
    have BKgs := n0_; clear n0_
    have BKgt := n1_; clear n1_
    have BKgn := n2_; clear n2_
    have HB := n3_; clear n3_
    (try clear hb)
    go_wp2_with fail
    with_reducible refine (CW.out _ (Glob.below HG.out (by repeat (first | (with_reducible first | exact HB.out | apply below_alloc | apply pw_below_drewN | apply below_drew1 | refine below_set ?_ GEgs.out | refine below_set ?_ GEgt.out | refine below_set ?_ GEgn.out) | exact HB.out)))).mono ?_
    rintro e v8 ⟨rfl, hb⟩
    have n0_ := Aside0.mk (blk_below (g := gs) (o := .cells #[.int .i64 s.q, .int .i64 s.g, .int .i64 s.l, .int .i64 s.r, .int .i64 s.t, .int .i64 s.c] 43 (0, 0)) (by (with_reducible repeat (first | refine blk_drewN ?_ _ | refine blk_drew ?_ | refine blk_alloc ?_ _)); exact BKgs.out) hb)
    have n1_ := Aside0.mk (blk_below (g := gt) (o := .cells #[.int .i64 t.q, .int .i64 t.g, .int .i64 t.l, .int .i64 t.r, .int .i64 t.t, .int .i64 t.c] 43 (0, 0)) (by (with_reducible repeat (first | refine blk_drewN ?_ _ | refine blk_drew ?_ | refine blk_alloc ?_ _)); exact BKgt.out) hb)
    have n2_ := Aside0.mk (blk_below (g := gn) (o := .cells #[.int .u8 (n0.toNat : Int), .int .u8 (n1.toNat : Int), .int .u8 (y0.toNat : Int), .int .u8 (y1.toNat : Int), .int .u8 (y2.toNat : Int), .int .u8 (y3.toNat : Int)] 57 (0, 0)) (by (with_reducible repeat (first | refine blk_drewN ?_ _ | refine blk_drew ?_ | refine blk_alloc ?_ _)); exact BKgn.out) hb)
    have n3_ := Aside0.mk (below_step (by repeat (first | (with_reducible first | exact HB.out | apply below_alloc | apply pw_below_drewN | apply below_drew1 | refine below_set ?_ GEgs.out | refine below_set ?_ GEgt.out | refine below_set ?_ GEgn.out) | exact HB.out)) hb)
    clear BKgs
    clear BKgt
    clear BKgn
    clear HB
    have BKgs := n0_; clear n0_
    have BKgt := n1_; clear n1_
    have BKgn := n2_; clear n2_
    have HB := n3_; clear n3_
    (try clear hb)
    go_wp2_with fail
    go_ret
    exact ⟨rfl, by repeat (first | (with_reducible first | exact HB.out | apply below_alloc | apply pw_below_drewN | apply below_drew1 | refine below_set ?_ GEgs.out | refine below_set ?_ GEgt.out | refine below_set ?_ GEgn.out) | exact HB.out)⟩
  rw [encR, if_pos h1] at CS; dsimp only at CS
  rw [encR, if_pos h2] at CT; dsimp only at CT
  clear GS GT
  by_cases hw : n0.toNat % 2 = 1
  rotate_left
  · skip
    have Hw := Lib.hid hw; clear hw
    have hI := enc_sup h1
    obtain ⟨A, hA⟩ : ∃ A, A = strOfNums (encL s) := ⟨_, rfl⟩
    obtain ⟨B, hB⟩ : ∃ B, B = strOfNums (encL t) := ⟨_, rfl⟩
    obtain ⟨U, hU⟩ : ∃ U, U = strOfNums (encL s) := ⟨_, rfl⟩
    have hUW : U = A := by rw [hU, hA]
    have HP := Lib.hid (fun (F : ByteArray) (i : Nat) (hi : i < 4) (hF : F = A ∨ F = B) (h0 : i = 0 → F = U) => piece (s := s) (t := t) (want := s) i hi (hF.imp (fun e => e.trans hA) (fun e => e.trans hB)) (fun e => (h0 e).trans hU))
    have hsA : A.size = 256 := by rw [hA, str_size, encL_len]
    have hsB : B.size = 256 := by rw [hB, str_size, encL_len]
    rw [← hU] at hI; rw [← hA] at CS; rw [← hB] at CT
    have HI := Lib.hid hI; have HSA := Lib.hid hsA; have HSB := Lib.hid hsB; have HUW := Lib.hid hUW; have HU := Lib.hid hU
    have zf1 : ((A.size : Int) == 256) = true := by rw [hsA]; rfl
    have zf2 : ((B.size : Int) == 256) = true := by rw [hsB]; rfl
    have zf3 : ((A.size : Int) != 256) = false := by rw [hsA]; rfl
    have zf4 : ((B.size : Int) != 256) = false := by rw [hsB]; rfl
    have zf5 : (A.size : Int) = 256 := by rw [hsA]; rfl
    have zf6 : (B.size : Int) = 256 := by rw [hsB]; rfl
    clear hI hsA hsB hU hA hB hUW h1 h2
    go_enter Tryd.func7, Tryd.ntmps7
    go_wp2_with (first | ((with_reducible refine gate_dst (N := 3) rfl ?_); (try (refine gate_guard (by rfl) ?_; dsimp only)); refine box_event ?hg (N := 3) ?hd (cs := #[.int .i64 s.q, .int .i64 s.g, .int .i64 s.l, .int .i64 s.r, .int .i64 s.t, .int .i64 s.c]) (t := 43) ?hr ?_; (case hd => rfl); (case hg => rfl); (case hr => first | (go_simp; done) | (go_simp; rfl)); intro gs hg v1 hbox hb; have n0_ := Aside0.mk (by rw [hg]; exact below_size (by repeat (first | (with_reducible first | exact HB.out | apply below_alloc | apply pw_below_drewN | apply below_drew1) | exact HB.out)) : w.heap.size ≤ gs); have n1_ := Aside0.mk (below_step (by repeat (first | (with_reducible first | exact HB.out | apply below_alloc | apply pw_below_drewN | apply below_drew1) | exact HB.out)) hb); have n2_ := Aside0.mk hbox; clear HB; have GEgs := n0_; clear n0_; have HB := n1_; clear n1_; have BKgs := n2_; clear n2_; clear hb hbox hg; have hcz1 : v1.cell? ⟨gs, 0, none⟩ = some (.int .i64 s.q) := (blk_cell BKgs.out 0).trans rfl; have hfz1 := blk_frozen BKgs.out 0; have hcz2 : v1.cell? ⟨gs, 1, none⟩ = some (.int .i64 s.g) := (blk_cell BKgs.out 1).trans rfl; have hfz2 := blk_frozen BKgs.out 1; have hcz3 : v1.cell? ⟨gs, 2, none⟩ = some (.int .i64 s.l) := (blk_cell BKgs.out 2).trans rfl; have hfz3 := blk_frozen BKgs.out 2; have hcz4 : v1.cell? ⟨gs, 3, none⟩ = some (.int .i64 s.r) := (blk_cell BKgs.out 3).trans rfl; have hfz4 := blk_frozen BKgs.out 3; have hcz5 : v1.cell? ⟨gs, 4, none⟩ = some (.int .i64 s.t) := (blk_cell BKgs.out 4).trans rfl; have hfz5 := blk_frozen BKgs.out 4; have hcz6 : v1.cell? ⟨gs, 5, none⟩ = some (.int .i64 s.c) := (blk_cell BKgs.out 5).trans rfl; have hfz6 := blk_frozen BKgs.out 5) | ((with_reducible refine gate_dst (N := 4) rfl ?_); (try (refine gate_guard (by rfl) ?_; dsimp only)); refine box_event ?hg (N := 4) ?hd (cs := #[.int .i64 t.q, .int .i64 t.g, .int .i64 t.l, .int .i64 t.r, .int .i64 t.t, .int .i64 t.c]) (t := 43) ?hr ?_; (case hd => rfl); (case hg => rfl); (case hr => first | (go_simp; done) | (go_simp; rfl)); intro gt hg v2 hbox hb; have n0_ := Aside0.mk (by rw [hg]; exact Nat.ne_of_lt (blk_lt (g := gs) (o := .cells #[.int .i64 s.q, .int .i64 s.g, .int .i64 s.l, .int .i64 s.r, .int .i64 s.t, .int .i64 s.c] 43 (0, 0)) (by (with_reducible repeat (first | refine blk_drewN ?_ _ | refine blk_drew ?_ | refine blk_alloc ?_ _)); exact BKgs.out)) : gs ≠ gt); have n1_ := Aside0.mk (by rw [hg]; exact Nat.ne_of_gt (blk_lt (g := gs) (o := .cells #[.int .i64 s.q, .int .i64 s.g, .int .i64 s.l, .int .i64 s.r, .int .i64 s.t, .int .i64 s.c] 43 (0, 0)) (by (with_reducible repeat (first | refine blk_drewN ?_ _ | refine blk_drew ?_ | refine blk_alloc ?_ _)); exact BKgs.out)) : gt ≠ gs); have n2_ := Aside0.mk (by rw [hg]; exact below_size (by repeat (first | (with_reducible first | exact HB.out | apply below_alloc | apply pw_below_drewN | apply below_drew1 | refine below_set ?_ GEgs.out) | exact HB.out)) : w.heap.size ≤ gt); have n3_ := Aside0.mk (blk_below (g := gs) (o := .cells #[.int .i64 s.q, .int .i64 s.g, .int .i64 s.l, .int .i64 s.r, .int .i64 s.t, .int .i64 s.c] 43 (0, 0)) (by (with_reducible repeat (first | refine blk_drewN ?_ _ | refine blk_drew ?_ | refine blk_alloc ?_ _)); exact BKgs.out) hb); have n4_ := Aside0.mk (below_step (by repeat (first | (with_reducible first | exact HB.out | apply below_alloc | apply pw_below_drewN | apply below_drew1 | refine below_set ?_ GEgs.out) | exact HB.out)) hb); have n5_ := Aside0.mk hbox; clear hcz1 hfz1 hcz2 hfz2 hcz3 hfz3 hcz4 hfz4 hcz5 hfz5 hcz6 hfz6; clear BKgs; clear HB; have NBgs_gt := n0_; clear n0_; have NBgt_gs := n1_; clear n1_; have GEgt := n2_; clear n2_; have BKgs := n3_; clear n3_; have HB := n4_; clear n4_; have BKgt := n5_; clear n5_; clear hb hbox hg; have hcz7 : v2.cell? ⟨gs, 0, none⟩ = some (.int .i64 s.q) := (blk_cell BKgs.out 0).trans rfl; have hfz7 := blk_frozen BKgs.out 0; have hcz8 : v2.cell? ⟨gs, 1, none⟩ = some (.int .i64 s.g) := (blk_cell BKgs.out 1).trans rfl; have hfz8 := blk_frozen BKgs.out 1; have hcz9 : v2.cell? ⟨gs, 2, none⟩ = some (.int .i64 s.l) := (blk_cell BKgs.out 2).trans rfl; have hfz9 := blk_frozen BKgs.out 2; have hcz10 : v2.cell? ⟨gs, 3, none⟩ = some (.int .i64 s.r) := (blk_cell BKgs.out 3).trans rfl; have hfz10 := blk_frozen BKgs.out 3; have hcz11 : v2.cell? ⟨gs, 4, none⟩ = some (.int .i64 s.t) := (blk_cell BKgs.out 4).trans rfl; have hfz11 := blk_frozen BKgs.out 4; have hcz12 : v2.cell? ⟨gs, 5, none⟩ = some (.int .i64 s.c) := (blk_cell BKgs.out 5).trans rfl; have hfz12 := blk_frozen BKgs.out 5; have hcz13 : v2.cell? ⟨gt, 0, none⟩ = some (.int .i64 t.q) := (blk_cell BKgt.out 0).trans rfl; have hfz13 := blk_frozen BKgt.out 0; have hcz14 : v2.cell? ⟨gt, 1, none⟩ = some (.int .i64 t.g) := (blk_cell BKgt.out 1).trans rfl; have hfz14 := blk_frozen BKgt.out 1; have hcz15 : v2.cell? ⟨gt, 2, none⟩ = some (.int .i64 t.l) := (blk_cell BKgt.out 2).trans rfl; have hfz15 := blk_frozen BKgt.out 2; have hcz16 : v2.cell? ⟨gt, 3, none⟩ = some (.int .i64 t.r) := (blk_cell BKgt.out 3).trans rfl; have hfz16 := blk_frozen BKgt.out 3; have hcz17 : v2.cell? ⟨gt, 4, none⟩ = some (.int .i64 t.t) := (blk_cell BKgt.out 4).trans rfl; have hfz17 := blk_frozen BKgt.out 4; have hcz18 : v2.cell? ⟨gt, 5, none⟩ = some (.int .i64 t.c) := (blk_cell BKgt.out 5).trans rfl; have hfz18 := blk_frozen BKgt.out 5) | ((with_reducible refine gate_dst (N := 5) rfl ?_); (try (refine gate_guard (by rfl) ?_; dsimp only)); refine box_event ?hg (N := 5) ?hd (cs := #[.int .u8 (n0.toNat : Int), .int .u8 (n1.toNat : Int), .int .u8 (y0.toNat : Int), .int .u8 (y1.toNat : Int), .int .u8 (y2.toNat : Int), .int .u8 (y3.toNat : Int)]) (t := 57) ?hr ?_; (case hd => rfl); (case hg => rfl); (case hr => first | (go_simp; done) | (go_simp; rfl)); intro gn hg v3 hbox hb; have n0_ := Aside0.mk (by rw [hg]; exact Nat.ne_of_lt (blk_lt (g := gs) (o := .cells #[.int .i64 s.q, .int .i64 s.g, .int .i64 s.l, .int .i64 s.r, .int .i64 s.t, .int .i64 s.c] 43 (0, 0)) (by (with_reducible repeat (first | refine blk_drewN ?_ _ | refine blk_drew ?_ | refine blk_alloc ?_ _)); exact BKgs.out)) : gs ≠ gn); have n1_ := Aside0.mk (by rw [hg]; exact Nat.ne_of_gt (blk_lt (g := gs) (o := .cells #[.int .i64 s.q, .int .i64 s.g, .int .i64 s.l, .int .i64 s.r, .int .i64 s.t, .int .i64 s.c] 43 (0, 0)) (by (with_reducible repeat (first | refine blk_drewN ?_ _ | refine blk_drew ?_ | refine blk_alloc ?_ _)); exact BKgs.out)) : gn ≠ gs); have n2_ := Aside0.mk (by rw [hg]; exact Nat.ne_of_lt (blk_lt (g := gt) (o := .cells #[.int .i64 t.q, .int .i64 t.g, .int .i64 t.l, .int .i64 t.r, .int .i64 t.t, .int .i64 t.c] 43 (0, 0)) (by (with_reducible repeat (first | refine blk_drewN ?_ _ | refine blk_drew ?_ | refine blk_alloc ?_ _)); exact BKgt.out)) : gt ≠ gn); have n3_ := Aside0.mk (by rw [hg]; exact Nat.ne_of_gt (blk_lt (g := gt) (o := .cells #[.int .i64 t.q, .int .i64 t.g, .int .i64 t.l, .int .i64 t.r, .int .i64 t.t, .int .i64 t.c] 43 (0, 0)) (by (with_reducible repeat (first | refine blk_drewN ?_ _ | refine blk_drew ?_ | refine blk_alloc ?_ _)); exact BKgt.out)) : gn ≠ gt); have n4_ := Aside0.mk (by rw [hg]; exact below_size (by repeat (first | (with_reducible first | exact HB.out | apply below_alloc | apply pw_below_drewN | apply below_drew1 | refine below_set ?_ GEgs.out | refine below_set ?_ GEgt.out) | exact HB.out)) : w.heap.size ≤ gn); have n5_ := Aside0.mk (blk_below (g := gs) (o := .cells #[.int .i64 s.q, .int .i64 s.g, .int .i64 s.l, .int .i64 s.r, .int .i64 s.t, .int .i64 s.c] 43 (0, 0)) (by (with_reducible repeat (first | refine blk_drewN ?_ _ | refine blk_drew ?_ | refine blk_alloc ?_ _)); exact BKgs.out) hb); have n6_ := Aside0.mk (blk_below (g := gt) (o := .cells #[.int .i64 t.q, .int .i64 t.g, .int .i64 t.l, .int .i64 t.r, .int .i64 t.t, .int .i64 t.c] 43 (0, 0)) (by (with_reducible repeat (first | refine blk_drewN ?_ _ | refine blk_drew ?_ | refine blk_alloc ?_ _)); exact BKgt.out) hb); have n7_ := Aside0.mk (below_step (by repeat (first | (with_reducible first | exact HB.out | apply below_alloc | apply pw_below_drewN | apply below_drew1 | refine below_set ?_ GEgs.out | refine below_set ?_ GEgt.out) | exact HB.out)) hb); have n8_ := Aside0.mk hbox; clear hcz7 hfz7 hcz8 hfz8 hcz9 hfz9 hcz10 hfz10 hcz11 hfz11 hcz12 hfz12 hcz13 hfz13 hcz14 hfz14 hcz15 hfz15 hcz16 hfz16 hcz17 hfz17 hcz18 hfz18; clear BKgs; clear BKgt; clear HB; have NBgs_gn := n0_; clear n0_; have NBgn_gs := n1_; clear n1_; have NBgt_gn := n2_; clear n2_; have NBgn_gt := n3_; clear n3_; have GEgn := n4_; clear n4_; have BKgs := n5_; clear n5_; have BKgt := n6_; clear n6_; have HB := n7_; clear n7_; have BKgn := n8_; clear n8_; clear hb hbox hg; have hcz19 : v3.cell? ⟨gs, 0, none⟩ = some (.int .i64 s.q) := (blk_cell BKgs.out 0).trans rfl; have hfz19 := blk_frozen BKgs.out 0; have hcz20 : v3.cell? ⟨gs, 1, none⟩ = some (.int .i64 s.g) := (blk_cell BKgs.out 1).trans rfl; have hfz20 := blk_frozen BKgs.out 1; have hcz21 : v3.cell? ⟨gs, 2, none⟩ = some (.int .i64 s.l) := (blk_cell BKgs.out 2).trans rfl; have hfz21 := blk_frozen BKgs.out 2; have hcz22 : v3.cell? ⟨gs, 3, none⟩ = some (.int .i64 s.r) := (blk_cell BKgs.out 3).trans rfl; have hfz22 := blk_frozen BKgs.out 3; have hcz23 : v3.cell? ⟨gs, 4, none⟩ = some (.int .i64 s.t) := (blk_cell BKgs.out 4).trans rfl; have hfz23 := blk_frozen BKgs.out 4; have hcz24 : v3.cell? ⟨gs, 5, none⟩ = some (.int .i64 s.c) := (blk_cell BKgs.out 5).trans rfl; have hfz24 := blk_frozen BKgs.out 5))
    with_reducible refine (CS.out _ (Glob.below HG.out (by repeat (first | (with_reducible first | exact HB.out | apply below_alloc | apply pw_below_drewN | apply below_drew1 | refine below_set ?_ GEgs.out | refine below_set ?_ GEgt.out | refine below_set ?_ GEgn.out) | exact HB.out)))).mono ?_
    rintro e v4 ⟨rfl, hb⟩
    have n0_ := Aside0.mk (blk_below (g := gs) (o := .cells #[.int .i64 s.q, .int .i64 s.g, .int .i64 s.l, .int .i64 s.r, .int .i64 s.t, .int .i64 s.c] 43 (0, 0)) (by (with_reducible repeat (first | refine blk_drewN ?_ _ | refine blk_drew ?_ | refine blk_alloc ?_ _)); exact BKgs.out) hb)
    have n1_ := Aside0.mk (blk_below (g := gt) (o := .cells #[.int .i64 t.q, .int .i64 t.g, .int .i64 t.l, .int .i64 t.r, .int .i64 t.t, .int .i64 t.c] 43 (0, 0)) (by (with_reducible repeat (first | refine blk_drewN ?_ _ | refine blk_drew ?_ | refine blk_alloc ?_ _)); exact BKgt.out) hb)
    have n2_ := Aside0.mk (blk_below (g := gn) (o := .cells #[.int .u8 (n0.toNat : Int), .int .u8 (n1.toNat : Int), .int .u8 (y0.toNat : Int), .int .u8 (y1.toNat : Int), .int .u8 (y2.toNat : Int), .int .u8 (y3.toNat : Int)] 57 (0, 0)) (by (with_reducible repeat (first | refine blk_drewN ?_ _ | refine blk_drew ?_ | refine blk_alloc ?_ _)); exact BKgn.out) hb)
    have n3_ := Aside0.mk (below_step (by repeat (first | (with_reducible first | exact HB.out | apply below_alloc | apply pw_below_drewN | apply below_drew1 | refine below_set ?_ GEgs.out | refine below_set ?_ GEgt.out | refine below_set ?_ GEgn.out) | exact HB.out)) hb)
    clear hcz19 hfz19 hcz20 hfz20 hcz21 hfz21 hcz22 hfz22 hcz23 hfz23 hcz24 hfz24
    clear BKgs
    clear BKgt
    clear BKgn
    clear HB
    have BKgs := n0_; clear n0_
    have BKgt := n1_; clear n1_
    have BKgn := n2_; clear n2_
    have HB := n3_; clear n3_
    (try clear hb)
    have hcz25 : v4.cell? ⟨gt, 0, none⟩ = some (.int .i64 t.q) := (blk_cell BKgt.out 0).trans rfl
    have hfz25 := blk_frozen BKgt.out 0
    have hcz26 : v4.cell? ⟨gt, 1, none⟩ = some (.int .i64 t.g) := (blk_cell BKgt.out 1).trans rfl
    have hfz26 := blk_frozen BKgt.out 1
    have hcz27 : v4.cell? ⟨gt, 2, none⟩ = some (.int .i64 t.l) := (blk_cell BKgt.out 2).trans rfl
    have hfz27 := blk_frozen BKgt.out 2
    have hcz28 : v4.cell? ⟨gt, 3, none⟩ = some (.int .i64 t.r) := (blk_cell BKgt.out 3).trans rfl
    have hfz28 := blk_frozen BKgt.out 3
    have hcz29 : v4.cell? ⟨gt, 4, none⟩ = some (.int .i64 t.t) := (blk_cell BKgt.out 4).trans rfl
    have hfz29 := blk_frozen BKgt.out 4
    have hcz30 : v4.cell? ⟨gt, 5, none⟩ = some (.int .i64 t.c) := (blk_cell BKgt.out 5).trans rfl
    have hfz30 := blk_frozen BKgt.out 5
    go_wp2_with fail
    with_reducible refine (CT.out _ (Glob.below HG.out (by repeat (first | (with_reducible first | exact HB.out | apply below_alloc | apply pw_below_drewN | apply below_drew1 | refine below_set ?_ GEgs.out | refine below_set ?_ GEgt.out | refine below_set ?_ GEgn.out) | exact HB.out)))).mono ?_
    rintro e v5 ⟨rfl, hb⟩
    have n0_ := Aside0.mk (blk_below (g := gs) (o := .cells #[.int .i64 s.q, .int .i64 s.g, .int .i64 s.l, .int .i64 s.r, .int .i64 s.t, .int .i64 s.c] 43 (0, 0)) (by (with_reducible repeat (first | refine blk_drewN ?_ _ | refine blk_drew ?_ | refine blk_alloc ?_ _)); exact BKgs.out) hb)
    have n1_ := Aside0.mk (blk_below (g := gt) (o := .cells #[.int .i64 t.q, .int .i64 t.g, .int .i64 t.l, .int .i64 t.r, .int .i64 t.t, .int .i64 t.c] 43 (0, 0)) (by (with_reducible repeat (first | refine blk_drewN ?_ _ | refine blk_drew ?_ | refine blk_alloc ?_ _)); exact BKgt.out) hb)
    have n2_ := Aside0.mk (blk_below (g := gn) (o := .cells #[.int .u8 (n0.toNat : Int), .int .u8 (n1.toNat : Int), .int .u8 (y0.toNat : Int), .int .u8 (y1.toNat : Int), .int .u8 (y2.toNat : Int), .int .u8 (y3.toNat : Int)] 57 (0, 0)) (by (with_reducible repeat (first | refine blk_drewN ?_ _ | refine blk_drew ?_ | refine blk_alloc ?_ _)); exact BKgn.out) hb)
    have n3_ := Aside0.mk (below_step (by repeat (first | (with_reducible first | exact HB.out | apply below_alloc | apply pw_below_drewN | apply below_drew1 | refine below_set ?_ GEgs.out | refine below_set ?_ GEgt.out | refine below_set ?_ GEgn.out) | exact HB.out)) hb)
    clear hcz25 hfz25 hcz26 hfz26 hcz27 hfz27 hcz28 hfz28 hcz29 hfz29 hcz30 hfz30
    clear BKgs
    clear BKgt
    clear BKgn
    clear HB
    have BKgs := n0_; clear n0_
    have BKgt := n1_; clear n1_
    have BKgn := n2_; clear n2_
    have HB := n3_; clear n3_
    (try clear hb)
    go_wp2_with fail
    have kgs := BKgs.out; have kgt := BKgt.out; have kgn := BKgn.out; have kbel := HB.out
    clear HB BKgs BKgt BKgn CS CT
    clear zf1 zf2 zf3 zf4 zf5 zf6
    have kK : Below v5.heap.size v5 v5 := Below.refl _ _
    have HK := Lib.hid kbel; have HGs := Lib.hid kgs; have HGt := Lib.hid kgt; have HGn := Lib.hid kgn; clear kgs kgt kgn kbel
    go_loopw [11, 12] (fun v11 v12 w' => ∃ (i : Nat), i ≤ 4 ∧ v12 = .int .i64 (i : Int) ∧ w'.ownsRow v5.heap.size 5 1 v11 ((encL s).take (64 * i)).length (nums .u8 ((encL s).take (64 * i))) ∧ Below v5.heap.size v5 w') (fun _ v12 _ => 4 - (intOf v12).toNat)
    case atStart => exact ⟨0, by omega, rfl, Kd.own_of_R (Kd.R_nil (Kd.int .u8) _ _ _ (fun _ => True)), by repeat (first | (with_reducible first | exact kK | apply pw_below_drewN | apply below_drew1) | exact kK)⟩
    clear kK
    case round =>
      obtain ⟨i, hi, rfl, hown, hb⟩ := hrel
      have hgn := blk_below HGn.out hb
      by_cases hlt : i < 4
      · have hi4 : decide ((i : Int) < 4) = true := decide_eq_true (by omega)
        have hn0 := (blk_cell hgn 0).trans rfl
        have hbit := bit_cond n0.toNat i n0.toNat_lt hlt
        have hi1 : wrap64 ((i : Int) + 1) = ((i + 1 : Nat) : Int) := by unfold wrap64; omega
        have hz0 : i = 0 → n0.toNat / 2 ^ i % 2 = 0 := fun h => by rw [h, Nat.pow_zero, Nat.div_one]; have := Hw.out; omega
        have HZ := Lib.hid hz0; clear hz0
        have hw1 : wrap64 (64 * (i : Int)) = 64 * (i : Int) := by unfold wrap64; omega
        have hw2 : wrap64 (64 * (i : Int) + 64) = 64 * (i : Int) + 64 := by unfold wrap64; omega
        have hs1 : (64 * (i : Int) + 64 ≤ (A.size : Int)) = True := eq_true (by have := HSA.out; omega)
        have hs2 : (64 * (i : Int) + 64 ≤ (B.size : Int)) = True := eq_true (by have := HSB.out; omega)
        have hs3 : (0 ≤ 64 * (i : Int)) = True := eq_true (by omega)
        have hs4 : (0 ≤ 64 * (i : Int) + 64) = True := eq_true (by omega)
        have hs5 : (64 * (i : Int) ≤ 64 * (i : Int) + 64) = True := eq_true (by omega)
        by_cases hbi : n0.toNat / 2 ^ i % 2 = 1
        · rw [decide_eq_true hbi] at hbit
          have hF := HP.out B i hlt (Or.inr rfl) (fun h => (by have := HZ.out h; omega))
          have HF := Lib.hid hF; have Hlt := Lib.hid hlt; have Hown := Lib.hid hown; have Hb := Lib.hid hb; clear hF hlt hi hbi hown hgn hb
          go_wp2_with ((with_reducible refine gate_builtin (b := .append) (xs := #[.tmp 74, .tmp 81]) rfl ?_); at_builtin; go_must (refine app_str v5.heap.size rfl (.tmp 74) (.tmp 81) rfl _ _ _ rfl rfl Hown.out Hb.out.size (by have h1 := HSA.out; have h2 := HSB.out; rw [ByteArray.size_extract, take_len _ _ (by have := Hlt.out; omega)]; have := Hlt.out; omega) ?_); go_must (intro v20 w20 ho20 hg20); go_must (have hb20 := Hb.out.grown hg20 Hb.out.size (own_base Hown.out)); clear hg20; go_must (have ho21 := own_more rfl ho20 HF.out); clear ho20)
          refine ⟨⟨i + 1, by have := Hlt.out; omega, by go_num, ho21, by repeat (first | (with_reducible first | exact hb20 | apply pw_below_drewN | apply below_drew1) | exact hb20)⟩, ?_⟩
          have := Hlt.out; rw [hi1]; simp only [intOf]; omega
        have hbi2 : ¬ n0.toNat / 2 ^ i % 2 = 1 := hbi
        · rw [decide_eq_false hbi2] at hbit
          have hF := HP.out A i hlt (Or.inl rfl) (fun h => HUW.out.symm)
          have HF := Lib.hid hF; have Hlt := Lib.hid hlt; have Hown := Lib.hid hown; have Hb := Lib.hid hb; clear hF hlt hi hbi hown hgn hb
          go_wp2_with ((with_reducible refine gate_builtin (b := .append) (xs := #[.tmp 74, .tmp 81]) rfl ?_); at_builtin; go_must (refine app_str v5.heap.size rfl (.tmp 74) (.tmp 81) rfl _ _ _ rfl rfl Hown.out Hb.out.size (by have h1 := HSA.out; have h2 := HSB.out; rw [ByteArray.size_extract, take_len _ _ (by have := Hlt.out; omega)]; have := Hlt.out; omega) ?_); go_must (intro v20 w20 ho20 hg20); go_must (have hb20 := Hb.out.grown hg20 Hb.out.size (own_base Hown.out)); clear hg20; go_must (have ho21 := own_more rfl ho20 HF.out); clear ho20)
          refine ⟨⟨i + 1, by have := Hlt.out; omega, by go_num, ho21, by repeat (first | (with_reducible first | exact hb20 | apply pw_below_drewN | apply below_drew1) | exact hb20)⟩, ?_⟩
          have := Hlt.out; rw [hi1]; simp only [intOf]; omega
      · have hi4 : decide ((i : Int) < 4) = false := decide_eq_false (by omega)
        obtain rfl : i = 4 := by omega
        have hgs := blk_below HGs.out hb; have hgt := blk_below HGt.out hb
        obtain ⟨g, C, rfl, hgK, hrow⟩ := own_all HU.out hown
        have BKgs := Aside0.mk hgs; have BKgt := Aside0.mk hgt; have BKgn := Aside0.mk hgn
        have HB := Aside0.mk (below_step HK.out hb)
        have gnB := Nat.ne_of_lt (Nat.lt_of_lt_of_le (blk_lt HGn.out) hgK)
        have hwB : w.heap.size ≤ g := Nat.le_trans (below_size HK.out) hgK
        clear hgs hgt hgn hown hb hlt hi hgK hi4
        obtain ⟨L0, hL0⟩ : ∃ l, l = U.data.toList := ⟨_, rfl⟩
        have hL0n : L0.length = 256 := by rw [hL0, RowU.data_length]; exact HI.out.1
        obtain ⟨M0, hM0⟩ : ∃ l, l = L0.take 60 := ⟨_, rfl⟩
        obtain ⟨tl, htl⟩ : ∃ l, l = L0.drop 60 := ⟨_, rfl⟩
        have hL : L0 = M0 ++ tl := by rw [hM0, htl, List.take_append_drop]
        have hM0n : M0.length = 60 := by rw [hM0, List.length_take, hL0n]; rfl
        have htn : tl.length = 196 := by rw [htl, List.length_drop, hL0n]
        rw [← hL0, hL] at hrow
        have HL0 := Lib.hid (hL ▸ hL0 : M0 ++ tl = U.data.toList)
        have HM0n := Lib.hid hM0n; have Htn := Lib.hid htn
        have Hcv := Lib.hid (fun w1 (h : Row w1 g (M0 ++ tl)) => (conv_row (C := C) (n := 256) (by rw [List.length_append, hM0n, htn]) h).trans (by rw [show txt (M0 ++ tl) = U from str_ext (by rw [txt_data]; exact HL0.out)]))
        have Hpos := Lib.hid (show 0 < (M0 ++ tl).length by rw [List.length_append, hM0n]; omega)
        clear hL0 hL0n hM0 htl hL hM0n htn
        have hR := hrow; clear hrow
        have hc0 := bit_cond0 n0.toNat n0.toNat_lt
        rw [decide_eq_false Hw.out] at hc0
        have CD := Lib.hid fun W hG => dec_c U W hG
        rw [dec_pos HI.out] at CD; dsimp only at CD
        have hcz301 : wr.cell? ⟨gs, 0, none⟩ = some (.int .i64 s.q) := (blk_cell BKgs.out 0).trans rfl
        have hfz301 := blk_frozen BKgs.out 0
        have hcz302 : wr.cell? ⟨gs, 1, none⟩ = some (.int .i64 s.g) := (blk_cell BKgs.out 1).trans rfl
        have hfz302 := blk_frozen BKgs.out 1
        have hcz303 : wr.cell? ⟨gs, 2, none⟩ = some (.int .i64 s.l) := (blk_cell BKgs.out 2).trans rfl
        have hfz303 := blk_frozen BKgs.out 2
        have hcz304 : wr.cell? ⟨gs, 3, none⟩ = some (.int .i64 s.r) := (blk_cell BKgs.out 3).trans rfl
        have hfz304 := blk_frozen BKgs.out 3
        have hcz305 : wr.cell? ⟨gs, 4, none⟩ = some (.int .i64 s.t) := (blk_cell BKgs.out 4).trans rfl
        have hfz305 := blk_frozen BKgs.out 4
        have hcz306 : wr.cell? ⟨gs, 5, none⟩ = some (.int .i64 s.c) := (blk_cell BKgs.out 5).trans rfl
        have hfz306 := blk_frozen BKgs.out 5
        have hcz307 : wr.cell? ⟨gt, 0, none⟩ = some (.int .i64 t.q) := (blk_cell BKgt.out 0).trans rfl
        have hfz307 := blk_frozen BKgt.out 0
        have hcz308 : wr.cell? ⟨gt, 1, none⟩ = some (.int .i64 t.g) := (blk_cell BKgt.out 1).trans rfl
        have hfz308 := blk_frozen BKgt.out 1
        have hcz309 : wr.cell? ⟨gt, 2, none⟩ = some (.int .i64 t.l) := (blk_cell BKgt.out 2).trans rfl
        have hfz309 := blk_frozen BKgt.out 2
        have hcz310 : wr.cell? ⟨gt, 3, none⟩ = some (.int .i64 t.r) := (blk_cell BKgt.out 3).trans rfl
        have hfz310 := blk_frozen BKgt.out 3
        have hcz311 : wr.cell? ⟨gt, 4, none⟩ = some (.int .i64 t.t) := (blk_cell BKgt.out 4).trans rfl
        have hfz311 := blk_frozen BKgt.out 4
        have hcz312 : wr.cell? ⟨gt, 5, none⟩ = some (.int .i64 t.c) := (blk_cell BKgt.out 5).trans rfl
        have hfz312 := blk_frozen BKgt.out 5
        have hcz313 : wr.cell? ⟨gn, 0, none⟩ = some (.int .u8 (n0.toNat : Int)) := (blk_cell BKgn.out 0).trans rfl
        have hfz313 := blk_frozen BKgn.out 0
        have hcz314 : wr.cell? ⟨gn, 1, none⟩ = some (.int .u8 (n1.toNat : Int)) := (blk_cell BKgn.out 1).trans rfl
        have hfz314 := blk_frozen BKgn.out 1
        have hcz315 : wr.cell? ⟨gn, 2, none⟩ = some (.int .u8 (y0.toNat : Int)) := (blk_cell BKgn.out 2).trans rfl
        have hfz315 := blk_frozen BKgn.out 2
        have hcz316 : wr.cell? ⟨gn, 3, none⟩ = some (.int .u8 (y1.toNat : Int)) := (blk_cell BKgn.out 3).trans rfl
        have hfz316 := blk_frozen BKgn.out 3
        have hcz317 : wr.cell? ⟨gn, 4, none⟩ = some (.int .u8 (y2.toNat : Int)) := (blk_cell BKgn.out 4).trans rfl
        have hfz317 := blk_frozen BKgn.out 4
        have hcz318 : wr.cell? ⟨gn, 5, none⟩ = some (.int .u8 (y3.toNat : Int)) := (blk_cell BKgn.out 5).trans rfl
        have hfz318 := blk_frozen BKgn.out 5
        go_wp2_with (first | ((with_reducible refine gate_dst (N := 14) rfl ?_); (try (refine gate_guard (by rfl) ?_; dsimp only)); refine box_event ?hg (N := 14) ?hd (cs := #[.int .i64 0, .int .i64 0, .int .i64 0, .int .i64 0, .int .i64 0, .int .i64 0]) (t := 43) ?hr ?_; (case hd => rfl); (case hg => rfl); (case hr => first | (go_simp; done) | (go_simp; rfl)); intro gw hg v30 hbox hb; have n0_ := Aside0.mk (by rw [hg]; exact Nat.ne_of_lt (blk_lt (g := gs) (o := .cells #[.int .i64 s.q, .int .i64 s.g, .int .i64 s.l, .int .i64 s.r, .int .i64 s.t, .int .i64 s.c] 43 (0, 0)) (by (with_reducible repeat (first | refine blk_drewN ?_ _ | refine blk_drew ?_ | refine blk_alloc ?_ _)); exact BKgs.out)) : gs ≠ gw); have n1_ := Aside0.mk (by rw [hg]; exact Nat.ne_of_gt (blk_lt (g := gs) (o := .cells #[.int .i64 s.q, .int .i64 s.g, .int .i64 s.l, .int .i64 s.r, .int .i64 s.t, .int .i64 s.c] 43 (0, 0)) (by (with_reducible repeat (first | refine blk_drewN ?_ _ | refine blk_drew ?_ | refine blk_alloc ?_ _)); exact BKgs.out)) : gw ≠ gs); have n2_ := Aside0.mk (by rw [hg]; exact Nat.ne_of_lt (blk_lt (g := gt) (o := .cells #[.int .i64 t.q, .int .i64 t.g, .int .i64 t.l, .int .i64 t.r, .int .i64 t.t, .int .i64 t.c] 43 (0, 0)) (by (with_reducible repeat (first | refine blk_drewN ?_ _ | refine blk_drew ?_ | refine blk_alloc ?_ _)); exact BKgt.out)) : gt ≠ gw); have n3_ := Aside0.mk (by rw [hg]; exact Nat.ne_of_gt (blk_lt (g := gt) (o := .cells #[.int .i64 t.q, .int .i64 t.g, .int .i64 t.l, .int .i64 t.r, .int .i64 t.t, .int .i64 t.c] 43 (0, 0)) (by (with_reducible repeat (first | refine blk_drewN ?_ _ | refine blk_drew ?_ | refine blk_alloc ?_ _)); exact BKgt.out)) : gw ≠ gt); have n4_ := Aside0.mk (by rw [hg]; exact Nat.ne_of_lt (blk_lt (g := gn) (o := .cells #[.int .u8 (n0.toNat : Int), .int .u8 (n1.toNat : Int), .int .u8 (y0.toNat : Int), .int .u8 (y1.toNat : Int), .int .u8 (y2.toNat : Int), .int .u8 (y3.toNat : Int)] 57 (0, 0)) (by (with_reducible repeat (first | refine blk_drewN ?_ _ | refine blk_drew ?_ | refine blk_alloc ?_ _)); exact BKgn.out)) : gn ≠ gw); have n5_ := Aside0.mk (by rw [hg]; exact Nat.ne_of_gt (blk_lt (g := gn) (o := .cells #[.int .u8 (n0.toNat : Int), .int .u8 (n1.toNat : Int), .int .u8 (y0.toNat : Int), .int .u8 (y1.toNat : Int), .int .u8 (y2.toNat : Int), .int .u8 (y3.toNat : Int)] 57 (0, 0)) (by (with_reducible repeat (first | refine blk_drewN ?_ _ | refine blk_drew ?_ | refine blk_alloc ?_ _)); exact BKgn.out)) : gw ≠ gn); have n6_ := Aside0.mk (by rw [hg]; exact below_size (by repeat (first | (with_reducible first | exact HB.out | apply below_alloc | apply pw_below_drewN | apply below_drew1 | refine below_set ?_ GEgs.out | refine below_set ?_ GEgt.out | refine below_set ?_ GEgn.out) | exact HB.out)) : w.heap.size ≤ gw); have n7_ := Aside0.mk (blk_below (g := gs) (o := .cells #[.int .i64 s.q, .int .i64 s.g, .int .i64 s.l, .int .i64 s.r, .int .i64 s.t, .int .i64 s.c] 43 (0, 0)) (by (with_reducible repeat (first | refine blk_drewN ?_ _ | refine blk_drew ?_ | refine blk_alloc ?_ _)); exact BKgs.out) hb); have n8_ := Aside0.mk (blk_below (g := gt) (o := .cells #[.int .i64 t.q, .int .i64 t.g, .int .i64 t.l, .int .i64 t.r, .int .i64 t.t, .int .i64 t.c] 43 (0, 0)) (by (with_reducible repeat (first | refine blk_drewN ?_ _ | refine blk_drew ?_ | refine blk_alloc ?_ _)); exact BKgt.out) hb); have n9_ := Aside0.mk (blk_below (g := gn) (o := .cells #[.int .u8 (n0.toNat : Int), .int .u8 (n1.toNat : Int), .int .u8 (y0.toNat : Int), .int .u8 (y1.toNat : Int), .int .u8 (y2.toNat : Int), .int .u8 (y3.toNat : Int)] 57 (0, 0)) (by (with_reducible repeat (first | refine blk_drewN ?_ _ | refine blk_drew ?_ | refine blk_alloc ?_ _)); exact BKgn.out) hb); have n10_ := Aside0.mk (below_step (by repeat (first | (with_reducible first | exact HB.out | apply below_alloc | apply pw_below_drewN | apply below_drew1 | refine below_set ?_ GEgs.out | refine below_set ?_ GEgt.out | refine below_set ?_ GEgn.out) | exact HB.out)) hb); have n11_ := Aside0.mk hbox; clear hcz301 hfz301 hcz302 hfz302 hcz303 hfz303 hcz304 hfz304 hcz305 hfz305 hcz306 hfz306 hcz307 hfz307 hcz308 hfz308 hcz309 hfz309 hcz310 hfz310 hcz311 hfz311 hcz312 hfz312 hcz313 hfz313 hcz314 hfz314 hcz315 hfz315 hcz316 hfz316 hcz317 hfz317 hcz318 hfz318; clear BKgs; clear BKgt; clear BKgn; clear HB; have NBgs_gw := n0_; clear n0_; have NBgw_gs := n1_; clear n1_; have NBgt_gw := n2_; clear n2_; have NBgw_gt := n3_; clear n3_; have NBgn_gw := n4_; clear n4_; have NBgw_gn := n5_; clear n5_; have GEgw := n6_; clear n6_; have BKgs := n7_; clear n7_; have BKgt := n8_; clear n8_; have BKgn := n9_; clear n9_; have HB := n10_; clear n10_; have BKgw := n11_; clear n11_; have hgB_gw := Nat.ne_of_lt (hR.lt Hpos.out); rw [← hg] at hgB_gw; have hR2_ := hR.below Hpos.out hb; clear hR; have hR := hR2_; clear hR2_; clear hb hbox hg; have hcz319 : v30.cell? ⟨gs, 0, none⟩ = some (.int .i64 s.q) := (blk_cell BKgs.out 0).trans rfl; have hfz319 := blk_frozen BKgs.out 0; have hcz320 : v30.cell? ⟨gs, 1, none⟩ = some (.int .i64 s.g) := (blk_cell BKgs.out 1).trans rfl; have hfz320 := blk_frozen BKgs.out 1; have hcz321 : v30.cell? ⟨gs, 2, none⟩ = some (.int .i64 s.l) := (blk_cell BKgs.out 2).trans rfl; have hfz321 := blk_frozen BKgs.out 2; have hcz322 : v30.cell? ⟨gs, 3, none⟩ = some (.int .i64 s.r) := (blk_cell BKgs.out 3).trans rfl; have hfz322 := blk_frozen BKgs.out 3; have hcz323 : v30.cell? ⟨gs, 4, none⟩ = some (.int .i64 s.t) := (blk_cell BKgs.out 4).trans rfl; have hfz323 := blk_frozen BKgs.out 4; have hcz324 : v30.cell? ⟨gs, 5, none⟩ = some (.int .i64 s.c) := (blk_cell BKgs.out 5).trans rfl; have hfz324 := blk_frozen BKgs.out 5; have hcz325 : v30.cell? ⟨gt, 0, none⟩ = some (.int .i64 t.q) := (blk_cell BKgt.out 0).trans rfl; have hfz325 := blk_frozen BKgt.out 0; have hcz326 : v30.cell? ⟨gt, 1, none⟩ = some (.int .i64 t.g) := (blk_cell BKgt.out 1).trans rfl; have hfz326 := blk_frozen BKgt.out 1; have hcz327 : v30.cell? ⟨gt, 2, none⟩ = some (.int .i64 t.l) := (blk_cell BKgt.out 2).trans rfl; have hfz327 := blk_frozen BKgt.out 2; have hcz328 : v30.cell? ⟨gt, 3, none⟩ = some (.int .i64 t.r) := (blk_cell BKgt.out 3).trans rfl; have hfz328 := blk_frozen BKgt.out 3; have hcz329 : v30.cell? ⟨gt, 4, none⟩ = some (.int .i64 t.t) := (blk_cell BKgt.out 4).trans rfl; have hfz329 := blk_frozen BKgt.out 4; have hcz330 : v30.cell? ⟨gt, 5, none⟩ = some (.int .i64 t.c) := (blk_cell BKgt.out 5).trans rfl; have hfz330 := blk_frozen BKgt.out 5; have hcz331 : v30.cell? ⟨gn, 0, none⟩ = some (.int .u8 (n0.toNat : Int)) := (blk_cell BKgn.out 0).trans rfl; have hfz331 := blk_frozen BKgn.out 0; have hcz332 : v30.cell? ⟨gn, 1, none⟩ = some (.int .u8 (n1.toNat : Int)) := (blk_cell BKgn.out 1).trans rfl; have hfz332 := blk_frozen BKgn.out 1; have hcz333 : v30.cell? ⟨gn, 2, none⟩ = some (.int .u8 (y0.toNat : Int)) := (blk_cell BKgn.out 2).trans rfl; have hfz333 := blk_frozen BKgn.out 2; have hcz334 : v30.cell? ⟨gn, 3, none⟩ = some (.int .u8 (y1.toNat : Int)) := (blk_cell BKgn.out 3).trans rfl; have hfz334 := blk_frozen BKgn.out 3; have hcz335 : v30.cell? ⟨gn, 4, none⟩ = some (.int .u8 (y2.toNat : Int)) := (blk_cell BKgn.out 4).trans rfl; have hfz335 := blk_frozen BKgn.out 4; have hcz336 : v30.cell? ⟨gn, 5, none⟩ = some (.int .u8 (y3.toNat : Int)) := (blk_cell BKgn.out 5).trans rfl; have hfz336 := blk_frozen BKgn.out 5; have hcz337 : v30.cell? ⟨gw, 0, none⟩ = some (.int .i64 0) := (blk_cell BKgw.out 0).trans rfl; have hfz337 := blk_frozen BKgw.out 0; have hcz338 : v30.cell? ⟨gw, 1, none⟩ = some (.int .i64 0) := (blk_cell BKgw.out 1).trans rfl; have hfz338 := blk_frozen BKgw.out 1; have hcz339 : v30.cell? ⟨gw, 2, none⟩ = some (.int .i64 0) := (blk_cell BKgw.out 2).trans rfl; have hfz339 := blk_frozen BKgw.out 2; have hcz340 : v30.cell? ⟨gw, 3, none⟩ = some (.int .i64 0) := (blk_cell BKgw.out 3).trans rfl; have hfz340 := blk_frozen BKgw.out 3; have hcz341 : v30.cell? ⟨gw, 4, none⟩ = some (.int .i64 0) := (blk_cell BKgw.out 4).trans rfl; have hfz341 := blk_frozen BKgw.out 4; have hcz342 : v30.cell? ⟨gw, 5, none⟩ = some (.int .i64 0) := (blk_cell BKgw.out 5).trans rfl; have hfz342 := blk_frozen BKgw.out 5) | ((with_reducible refine gate_store (t := 43) (p := 14) rfl ?_); refine store_event (t := 43) (p := 14) (v := ?vo_v31) (w1 := ((((((v30.setCell ⟨gw, 0, none⟩ (.int .i64 s.q)).setCell ⟨gw, 1, none⟩ (.int .i64 s.g)).setCell ⟨gw, 2, none⟩ (.int .i64 s.l)).setCell ⟨gw, 3, none⟩ (.int .i64 s.r)).setCell ⟨gw, 4, none⟩ (.int .i64 s.t)).setCell ⟨gw, 5, none⟩ (.int .i64 s.c))) ?hg ?ho ?hn ?hr ?_; (case ho => rfl); (case hg => rfl); (case hn => rfl); (case hr => first | (go_simp; done) | (go_simp; rfl)); intro v31 hw; have n0_ := Aside0.mk (by rw [hw]; (with_reducible repeat (first | refine blk_drewN ?_ _ | refine blk_drew ?_ | refine blk_alloc ?_ _)); refine blk_far ?_ NBgs_gw.out _; (with_reducible repeat (first | refine blk_drewN ?_ _ | refine blk_drew ?_ | refine blk_alloc ?_ _)); refine blk_far ?_ NBgs_gw.out _; (with_reducible repeat (first | refine blk_drewN ?_ _ | refine blk_drew ?_ | refine blk_alloc ?_ _)); refine blk_far ?_ NBgs_gw.out _; (with_reducible repeat (first | refine blk_drewN ?_ _ | refine blk_drew ?_ | refine blk_alloc ?_ _)); refine blk_far ?_ NBgs_gw.out _; (with_reducible repeat (first | refine blk_drewN ?_ _ | refine blk_drew ?_ | refine blk_alloc ?_ _)); refine blk_far ?_ NBgs_gw.out _; (with_reducible repeat (first | refine blk_drewN ?_ _ | refine blk_drew ?_ | refine blk_alloc ?_ _)); refine blk_far ?_ NBgs_gw.out _; (with_reducible repeat (first | refine blk_drewN ?_ _ | refine blk_drew ?_ | refine blk_alloc ?_ _)); exact BKgs.out : v31.heap[gs]? = some (.cells #[.int .i64 s.q, .int .i64 s.g, .int .i64 s.l, .int .i64 s.r, .int .i64 s.t, .int .i64 s.c] 43 (0, 0))); have n1_ := Aside0.mk (by rw [hw]; (with_reducible repeat (first | refine blk_drewN ?_ _ | refine blk_drew ?_ | refine blk_alloc ?_ _)); refine blk_far ?_ NBgt_gw.out _; (with_reducible repeat (first | refine blk_drewN ?_ _ | refine blk_drew ?_ | refine blk_alloc ?_ _)); refine blk_far ?_ NBgt_gw.out _; (with_reducible repeat (first | refine blk_drewN ?_ _ | refine blk_drew ?_ | refine blk_alloc ?_ _)); refine blk_far ?_ NBgt_gw.out _; (with_reducible repeat (first | refine blk_drewN ?_ _ | refine blk_drew ?_ | refine blk_alloc ?_ _)); refine blk_far ?_ NBgt_gw.out _; (with_reducible repeat (first | refine blk_drewN ?_ _ | refine blk_drew ?_ | refine blk_alloc ?_ _)); refine blk_far ?_ NBgt_gw.out _; (with_reducible repeat (first | refine blk_drewN ?_ _ | refine blk_drew ?_ | refine blk_alloc ?_ _)); refine blk_far ?_ NBgt_gw.out _; (with_reducible repeat (first | refine blk_drewN ?_ _ | refine blk_drew ?_ | refine blk_alloc ?_ _)); exact BKgt.out : v31.heap[gt]? = some (.cells #[.int .i64 t.q, .int .i64 t.g, .int .i64 t.l, .int .i64 t.r, .int .i64 t.t, .int .i64 t.c] 43 (0, 0))); have n2_ := Aside0.mk (by rw [hw]; (with_reducible repeat (first | refine blk_drewN ?_ _ | refine blk_drew ?_ | refine blk_alloc ?_ _)); refine blk_far ?_ NBgn_gw.out _; (with_reducible repeat (first | refine blk_drewN ?_ _ | refine blk_drew ?_ | refine blk_alloc ?_ _)); refine blk_far ?_ NBgn_gw.out _; (with_reducible repeat (first | refine blk_drewN ?_ _ | refine blk_drew ?_ | refine blk_alloc ?_ _)); refine blk_far ?_ NBgn_gw.out _; (with_reducible repeat (first | refine blk_drewN ?_ _ | refine blk_drew ?_ | refine blk_alloc ?_ _)); refine blk_far ?_ NBgn_gw.out _; (with_reducible repeat (first | refine blk_drewN ?_ _ | refine blk_drew ?_ | refine blk_alloc ?_ _)); refine blk_far ?_ NBgn_gw.out _; (with_reducible repeat (first | refine blk_drewN ?_ _ | refine blk_drew ?_ | refine blk_alloc ?_ _)); refine blk_far ?_ NBgn_gw.out _; (with_reducible repeat (first | refine blk_drewN ?_ _ | refine blk_drew ?_ | refine blk_alloc ?_ _)); exact BKgn.out : v31.heap[gn]? = some (.cells #[.int .u8 (n0.toNat : Int), .int .u8 (n1.toNat : Int), .int .u8 (y0.toNat : Int), .int .u8 (y1.toNat : Int), .int .u8 (y2.toNat : Int), .int .u8 (y3.toNat : Int)] 57 (0, 0))); have n3_ := Aside0.mk (by rw [hw]; (with_reducible repeat (first | refine blk_drewN ?_ _ | refine blk_drew ?_ | refine blk_alloc ?_ _)); refine blk_put (cs := #[.int .i64 s.q, .int .i64 s.g, .int .i64 s.l, .int .i64 s.r, .int .i64 s.t, .int .i64 0]) ?_ 5 _ rfl; (with_reducible repeat (first | refine blk_drewN ?_ _ | refine blk_drew ?_ | refine blk_alloc ?_ _)); refine blk_put (cs := #[.int .i64 s.q, .int .i64 s.g, .int .i64 s.l, .int .i64 s.r, .int .i64 0, .int .i64 0]) ?_ 4 _ rfl; (with_reducible repeat (first | refine blk_drewN ?_ _ | refine blk_drew ?_ | refine blk_alloc ?_ _)); refine blk_put (cs := #[.int .i64 s.q, .int .i64 s.g, .int .i64 s.l, .int .i64 0, .int .i64 0, .int .i64 0]) ?_ 3 _ rfl; (with_reducible repeat (first | refine blk_drewN ?_ _ | refine blk_drew ?_ | refine blk_alloc ?_ _)); refine blk_put (cs := #[.int .i64 s.q, .int .i64 s.g, .int .i64 0, .int .i64 0, .int .i64 0, .int .i64 0]) ?_ 2 _ rfl; (with_reducible repeat (first | refine blk_drewN ?_ _ | refine blk_drew ?_ | refine blk_alloc ?_ _)); refine blk_put (cs := #[.int .i64 s.q, .int .i64 0, .int .i64 0, .int .i64 0, .int .i64 0, .int .i64 0]) ?_ 1 _ rfl; (with_reducible repeat (first | refine blk_drewN ?_ _ | refine blk_drew ?_ | refine blk_alloc ?_ _)); refine blk_put (cs := #[.int .i64 0, .int .i64 0, .int .i64 0, .int .i64 0, .int .i64 0, .int .i64 0]) ?_ 0 _ rfl; (with_reducible repeat (first | refine blk_drewN ?_ _ | refine blk_drew ?_ | refine blk_alloc ?_ _)); exact BKgw.out : v31.heap[gw]? = some (.cells #[.int .i64 s.q, .int .i64 s.g, .int .i64 s.l, .int .i64 s.r, .int .i64 s.t, .int .i64 s.c] 43 (0, 0))); have n4_ := Aside0.mk (by rw [hw]; repeat (first | (with_reducible first | exact HB.out | apply below_alloc | apply pw_below_drewN | apply below_drew1 | refine below_set ?_ GEgs.out | refine below_set ?_ GEgt.out | refine below_set ?_ GEgn.out | refine below_set ?_ GEgw.out) | exact HB.out) : Below w.heap.size w v31); clear hcz319 hfz319 hcz320 hfz320 hcz321 hfz321 hcz322 hfz322 hcz323 hfz323 hcz324 hfz324 hcz325 hfz325 hcz326 hfz326 hcz327 hfz327 hcz328 hfz328 hcz329 hfz329 hcz330 hfz330 hcz331 hfz331 hcz332 hfz332 hcz333 hfz333 hcz334 hfz334 hcz335 hfz335 hcz336 hfz336 hcz337 hfz337 hcz338 hfz338 hcz339 hfz339 hcz340 hfz340 hcz341 hfz341 hcz342 hfz342; clear BKgs; clear BKgt; clear BKgn; clear BKgw; clear HB; have BKgs := n0_; clear n0_; have BKgt := n1_; clear n1_; have BKgn := n2_; clear n2_; have BKgw := n3_; clear n3_; have HB := n4_; clear n4_; have hR2_ : Row v31 g (M0 ++ tl) := (by rw [hw]; exact ((((((hR.far hgB_gw (p := ⟨gw, 0, none⟩) _).far hgB_gw (p := ⟨gw, 1, none⟩) _).far hgB_gw (p := ⟨gw, 2, none⟩) _).far hgB_gw (p := ⟨gw, 3, none⟩) _).far hgB_gw (p := ⟨gw, 4, none⟩) _).far hgB_gw (p := ⟨gw, 5, none⟩) _)); clear hR; have hR := hR2_; clear hR2_; clear hw; have hcz343 : v31.cell? ⟨gt, 0, none⟩ = some (.int .i64 t.q) := (blk_cell BKgt.out 0).trans rfl; have hfz343 := blk_frozen BKgt.out 0; have hcz344 : v31.cell? ⟨gt, 1, none⟩ = some (.int .i64 t.g) := (blk_cell BKgt.out 1).trans rfl; have hfz344 := blk_frozen BKgt.out 1; have hcz345 : v31.cell? ⟨gt, 2, none⟩ = some (.int .i64 t.l) := (blk_cell BKgt.out 2).trans rfl; have hfz345 := blk_frozen BKgt.out 2; have hcz346 : v31.cell? ⟨gt, 3, none⟩ = some (.int .i64 t.r) := (blk_cell BKgt.out 3).trans rfl; have hfz346 := blk_frozen BKgt.out 3; have hcz347 : v31.cell? ⟨gt, 4, none⟩ = some (.int .i64 t.t) := (blk_cell BKgt.out 4).trans rfl; have hfz347 := blk_frozen BKgt.out 4; have hcz348 : v31.cell? ⟨gt, 5, none⟩ = some (.int .i64 t.c) := (blk_cell BKgt.out 5).trans rfl; have hfz348 := blk_frozen BKgt.out 5; have hcz349 : v31.cell? ⟨gn, 0, none⟩ = some (.int .u8 (n0.toNat : Int)) := (blk_cell BKgn.out 0).trans rfl; have hfz349 := blk_frozen BKgn.out 0; have hcz350 : v31.cell? ⟨gn, 1, none⟩ = some (.int .u8 (n1.toNat : Int)) := (blk_cell BKgn.out 1).trans rfl; have hfz350 := blk_frozen BKgn.out 1; have hcz351 : v31.cell? ⟨gn, 2, none⟩ = some (.int .u8 (y0.toNat : Int)) := (blk_cell BKgn.out 2).trans rfl; have hfz351 := blk_frozen BKgn.out 2; have hcz352 : v31.cell? ⟨gn, 3, none⟩ = some (.int .u8 (y1.toNat : Int)) := (blk_cell BKgn.out 3).trans rfl; have hfz352 := blk_frozen BKgn.out 3; have hcz353 : v31.cell? ⟨gn, 4, none⟩ = some (.int .u8 (y2.toNat : Int)) := (blk_cell BKgn.out 4).trans rfl; have hfz353 := blk_frozen BKgn.out 4; have hcz354 : v31.cell? ⟨gn, 5, none⟩ = some (.int .u8 (y3.toNat : Int)) := (blk_cell BKgn.out 5).trans rfl; have hfz354 := blk_frozen BKgn.out 5; have hcz355 : v31.cell? ⟨gw, 0, none⟩ = some (.int .i64 s.q) := (blk_cell BKgw.out 0).trans rfl; have hfz355 := blk_frozen BKgw.out 0; have hcz356 : v31.cell? ⟨gw, 1, none⟩ = some (.int .i64 s.g) := (blk_cell BKgw.out 1).trans rfl; have hfz356 := blk_frozen BKgw.out 1; have hcz357 : v31.cell? ⟨gw, 2, none⟩ = some (.int .i64 s.l) := (blk_cell BKgw.out 2).trans rfl; have hfz357 := blk_frozen BKgw.out 2; have hcz358 : v31.cell? ⟨gw, 3, none⟩ = some (.int .i64 s.r) := (blk_cell BKgw.out 3).trans rfl; have hfz358 := blk_frozen BKgw.out 3; have hcz359 : v31.cell? ⟨gw, 4, none⟩ = some (.int .i64 s.t) := (blk_cell BKgw.out 4).trans rfl; have hfz359 := blk_frozen BKgw.out 4; have hcz360 : v31.cell? ⟨gw, 5, none⟩ = some (.int .i64 s.c) := (blk_cell BKgw.out 5).trans rfl; have hfz360 := blk_frozen BKgw.out 5))
        rw [Hcv.out _ hR]
        go_wp2_with fail
        with_reducible refine (CD.out _ (Glob.below HG.out (by repeat (first | (with_reducible first | exact HB.out | apply below_alloc | apply pw_below_drewN | apply below_drew1 | refine below_set ?_ GEgs.out | refine below_set ?_ GEgt.out | refine below_set ?_ GEgn.out | refine below_set ?_ GEgw.out) | exact HB.out)))).mono ?_
        rintro e v33 ⟨rfl, hb⟩
        have hR2_ := hR.below Hpos.out hb; clear hR; have hR := hR2_; clear hR2_
        have n0_ := Aside0.mk (blk_below (g := gs) (o := .cells #[.int .i64 s.q, .int .i64 s.g, .int .i64 s.l, .int .i64 s.r, .int .i64 s.t, .int .i64 s.c] 43 (0, 0)) (by (with_reducible repeat (first | refine blk_drewN ?_ _ | refine blk_drew ?_ | refine blk_alloc ?_ _)); exact BKgs.out) hb)
        have n1_ := Aside0.mk (blk_below (g := gt) (o := .cells #[.int .i64 t.q, .int .i64 t.g, .int .i64 t.l, .int .i64 t.r, .int .i64 t.t, .int .i64 t.c] 43 (0, 0)) (by (with_reducible repeat (first | refine blk_drewN ?_ _ | refine blk_drew ?_ | refine blk_alloc ?_ _)); exact BKgt.out) hb)
        have n2_ := Aside0.mk (blk_below (g := gn) (o := .cells #[.int .u8 (n0.toNat : Int), .int .u8 (n1.toNat : Int), .int .u8 (y0.toNat : Int), .int .u8 (y1.toNat : Int), .int .u8 (y2.toNat : Int), .int .u8 (y3.toNat : Int)] 57 (0, 0)) (by (with_reducible repeat (first | refine blk_drewN ?_ _ | refine blk_drew ?_ | refine blk_alloc ?_ _)); exact BKgn.out) hb)
        have n3_ := Aside0.mk (blk_below (g := gw) (o := .cells #[.int .i64 s.q, .int .i64 s.g, .int .i64 s.l, .int .i64 s.r, .int .i64 s.t, .int .i64 s.c] 43 (0, 0)) (by (with_reducible repeat (first | refine blk_drewN ?_ _ | refine blk_drew ?_ | refine blk_alloc ?_ _)); exact BKgw.out) hb)
        have n4_ := Aside0.mk (below_step (by repeat (first | (with_reducible first | exact HB.out | apply below_alloc | apply pw_below_drewN | apply below_drew1 | refine below_set ?_ GEgs.out | refine below_set ?_ GEgt.out | refine below_set ?_ GEgn.out | refine below_set ?_ GEgw.out) | exact HB.out)) hb)
        clear hcz343 hfz343 hcz344 hfz344 hcz345 hfz345 hcz346 hfz346 hcz347 hfz347 hcz348 hfz348 hcz349 hfz349 hcz350 hfz350 hcz351 hfz351 hcz352 hfz352 hcz353 hfz353 hcz354 hfz354 hcz355 hfz355 hcz356 hfz356 hcz357 hfz357 hcz358 hfz358 hcz359 hfz359 hcz360 hfz360
        clear BKgs
        clear BKgt
        clear BKgn
        clear BKgw
        clear HB
        have BKgs := n0_; clear n0_
        have BKgt := n1_; clear n1_
        have BKgn := n2_; clear n2_
        have BKgw := n3_; clear n3_
        have HB := n4_; clear n4_
        (try clear hb)
        have hcz361 : v33.cell? ⟨gn, 0, none⟩ = some (.int .u8 (n0.toNat : Int)) := (blk_cell BKgn.out 0).trans rfl
        have hfz361 := blk_frozen BKgn.out 0
        have hcz362 : v33.cell? ⟨gn, 1, none⟩ = some (.int .u8 (n1.toNat : Int)) := (blk_cell BKgn.out 1).trans rfl
        have hfz362 := blk_frozen BKgn.out 1
        have hcz363 : v33.cell? ⟨gn, 2, none⟩ = some (.int .u8 (y0.toNat : Int)) := (blk_cell BKgn.out 2).trans rfl
        have hfz363 := blk_frozen BKgn.out 2
        have hcz364 : v33.cell? ⟨gn, 3, none⟩ = some (.int .u8 (y1.toNat : Int)) := (blk_cell BKgn.out 3).trans rfl
        have hfz364 := blk_frozen BKgn.out 3
        have hcz365 : v33.cell? ⟨gn, 4, none⟩ = some (.int .u8 (y2.toNat : Int)) := (blk_cell BKgn.out 4).trans rfl
        have hfz365 := blk_frozen BKgn.out 4
        have hcz366 : v33.cell? ⟨gn, 5, none⟩ = some (.int .u8 (y3.toNat : Int)) := (blk_cell BKgn.out 5).trans rfl
        have hfz366 := blk_frozen BKgn.out 5
        have hcz367 : v33.cell? ⟨gw, 0, none⟩ = some (.int .i64 s.q) := (blk_cell BKgw.out 0).trans rfl
        have hfz367 := blk_frozen BKgw.out 0
        have hcz368 : v33.cell? ⟨gw, 1, none⟩ = some (.int .i64 s.g) := (blk_cell BKgw.out 1).trans rfl
        have hfz368 := blk_frozen BKgw.out 1
        have hcz369 : v33.cell? ⟨gw, 2, none⟩ = some (.int .i64 s.l) := (blk_cell BKgw.out 2).trans rfl
        have hfz369 := blk_frozen BKgw.out 2
        have hcz370 : v33.cell? ⟨gw, 3, none⟩ = some (.int .i64 s.r) := (blk_cell BKgw.out 3).trans rfl
        have hfz370 := blk_frozen BKgw.out 3
        have hcz371 : v33.cell? ⟨gw, 4, none⟩ = some (.int .i64 s.t) := (blk_cell BKgw.out 4).trans rfl
        have hfz371 := blk_frozen BKgw.out 4
        have hcz372 : v33.cell? ⟨gw, 5, none⟩ = some (.int .i64 s.c) := (blk_cell BKgw.out 5).trans rfl
        have hfz372 := blk_frozen BKgw.out 5
        go_wp2_with (first | ((with_reducible refine gate_dst (N := 15) rfl ?_); (try (refine gate_guard (by rfl) ?_; dsimp only)); refine box_event ?hg (N := 15) ?hd (cs := #[.int .i64 0, .int .i64 0, .int .i64 0, .int .i64 0, .int .i64 0, .int .i64 0]) (t := 43) ?hr ?_; (case hd => rfl); (case hg => rfl); (case hr => first | (go_simp; done) | (go_simp; rfl)); intro gd hg v34 hbox hb; have n0_ := Aside0.mk (by rw [hg]; exact Nat.ne_of_lt (blk_lt (g := gs) (o := .cells #[.int .i64 s.q, .int .i64 s.g, .int .i64 s.l, .int .i64 s.r, .int .i64 s.t, .int .i64 s.c] 43 (0, 0)) (by (with_reducible repeat (first | refine blk_drewN ?_ _ | refine blk_drew ?_ | refine blk_alloc ?_ _)); exact BKgs.out)) : gs ≠ gd); have n1_ := Aside0.mk (by rw [hg]; exact Nat.ne_of_gt (blk_lt (g := gs) (o := .cells #[.int .i64 s.q, .int .i64 s.g, .int .i64 s.l, .int .i64 s.r, .int .i64 s.t, .int .i64 s.c] 43 (0, 0)) (by (with_reducible repeat (first | refine blk_drewN ?_ _ | refine blk_drew ?_ | refine blk_alloc ?_ _)); exact BKgs.out)) : gd ≠ gs); have n2_ := Aside0.mk (by rw [hg]; exact Nat.ne_of_lt (blk_lt (g := gt) (o := .cells #[.int .i64 t.q, .int .i64 t.g, .int .i64 t.l, .int .i64 t.r, .int .i64 t.t, .int .i64 t.c] 43 (0, 0)) (by (with_reducible repeat (first | refine blk_drewN ?_ _ | refine blk_drew ?_ | refine blk_alloc ?_ _)); exact BKgt.out)) : gt ≠ gd); have n3_ := Aside0.mk (by rw [hg]; exact Nat.ne_of_gt (blk_lt (g := gt) (o := .cells #[.int .i64 t.q, .int .i64 t.g, .int .i64 t.l, .int .i64 t.r, .int .i64 t.t, .int .i64 t.c] 43 (0, 0)) (by (with_reducible repeat (first | refine blk_drewN ?_ _ | refine blk_drew ?_ | refine blk_alloc ?_ _)); exact BKgt.out)) : gd ≠ gt); have n4_ := Aside0.mk (by rw [hg]; exact Nat.ne_of_lt (blk_lt (g := gn) (o := .cells #[.int .u8 (n0.toNat : Int), .int .u8 (n1.toNat : Int), .int .u8 (y0.toNat : Int), .int .u8 (y1.toNat : Int), .int .u8 (y2.toNat : Int), .int .u8 (y3.toNat : Int)] 57 (0, 0)) (by (with_reducible repeat (first | refine blk_drewN ?_ _ | refine blk_drew ?_ | refine blk_alloc ?_ _)); exact BKgn.out)) : gn ≠ gd); have n5_ := Aside0.mk (by rw [hg]; exact Nat.ne_of_gt (blk_lt (g := gn) (o := .cells #[.int .u8 (n0.toNat : Int), .int .u8 (n1.toNat : Int), .int .u8 (y0.toNat : Int), .int .u8 (y1.toNat : Int), .int .u8 (y2.toNat : Int), .int .u8 (y3.toNat : Int)] 57 (0, 0)) (by (with_reducible repeat (first | refine blk_drewN ?_ _ | refine blk_drew ?_ | refine blk_alloc ?_ _)); exact BKgn.out)) : gd ≠ gn); have n6_ := Aside0.mk (by rw [hg]; exact Nat.ne_of_lt (blk_lt (g := gw) (o := .cells #[.int .i64 s.q, .int .i64 s.g, .int .i64 s.l, .int .i64 s.r, .int .i64 s.t, .int .i64 s.c] 43 (0, 0)) (by (with_reducible repeat (first | refine blk_drewN ?_ _ | refine blk_drew ?_ | refine blk_alloc ?_ _)); exact BKgw.out)) : gw ≠ gd); have n7_ := Aside0.mk (by rw [hg]; exact Nat.ne_of_gt (blk_lt (g := gw) (o := .cells #[.int .i64 s.q, .int .i64 s.g, .int .i64 s.l, .int .i64 s.r, .int .i64 s.t, .int .i64 s.c] 43 (0, 0)) (by (with_reducible repeat (first | refine blk_drewN ?_ _ | refine blk_drew ?_ | refine blk_alloc ?_ _)); exact BKgw.out)) : gd ≠ gw); have n8_ := Aside0.mk (by rw [hg]; exact below_size (by repeat (first | (with_reducible first | exact HB.out | apply below_alloc | apply pw_below_drewN | apply below_drew1 | refine below_set ?_ GEgs.out | refine below_set ?_ GEgt.out | refine below_set ?_ GEgn.out | refine below_set ?_ GEgw.out) | exact HB.out)) : w.heap.size ≤ gd); have n9_ := Aside0.mk (blk_below (g := gs) (o := .cells #[.int .i64 s.q, .int .i64 s.g, .int .i64 s.l, .int .i64 s.r, .int .i64 s.t, .int .i64 s.c] 43 (0, 0)) (by (with_reducible repeat (first | refine blk_drewN ?_ _ | refine blk_drew ?_ | refine blk_alloc ?_ _)); exact BKgs.out) hb); have n10_ := Aside0.mk (blk_below (g := gt) (o := .cells #[.int .i64 t.q, .int .i64 t.g, .int .i64 t.l, .int .i64 t.r, .int .i64 t.t, .int .i64 t.c] 43 (0, 0)) (by (with_reducible repeat (first | refine blk_drewN ?_ _ | refine blk_drew ?_ | refine blk_alloc ?_ _)); exact BKgt.out) hb); have n11_ := Aside0.mk (blk_below (g := gn) (o := .cells #[.int .u8 (n0.toNat : Int), .int .u8 (n1.toNat : Int), .int .u8 (y0.toNat : Int), .int .u8 (y1.toNat : Int), .int .u8 (y2.toNat : Int), .int .u8 (y3.toNat : Int)] 57 (0, 0)) (by (with_reducible repeat (first | refine blk_drewN ?_ _ | refine blk_drew ?_ | refine blk_alloc ?_ _)); exact BKgn.out) hb); have n12_ := Aside0.mk (blk_below (g := gw) (o := .cells #[.int .i64 s.q, .int .i64 s.g, .int .i64 s.l, .int .i64 s.r, .int .i64 s.t, .int .i64 s.c] 43 (0, 0)) (by (with_reducible repeat (first | refine blk_drewN ?_ _ | refine blk_drew ?_ | refine blk_alloc ?_ _)); exact BKgw.out) hb); have n13_ := Aside0.mk (below_step (by repeat (first | (with_reducible first | exact HB.out | apply below_alloc | apply pw_below_drewN | apply below_drew1 | refine below_set ?_ GEgs.out | refine below_set ?_ GEgt.out | refine below_set ?_ GEgn.out | refine below_set ?_ GEgw.out) | exact HB.out)) hb); have n14_ := Aside0.mk hbox; clear hcz361 hfz361 hcz362 hfz362 hcz363 hfz363 hcz364 hfz364 hcz365 hfz365 hcz366 hfz366 hcz367 hfz367 hcz368 hfz368 hcz369 hfz369 hcz370 hfz370 hcz371 hfz371 hcz372 hfz372; clear BKgs; clear BKgt; clear BKgn; clear BKgw; clear HB; have NBgs_gd := n0_; clear n0_; have NBgd_gs := n1_; clear n1_; have NBgt_gd := n2_; clear n2_; have NBgd_gt := n3_; clear n3_; have NBgn_gd := n4_; clear n4_; have NBgd_gn := n5_; clear n5_; have NBgw_gd := n6_; clear n6_; have NBgd_gw := n7_; clear n7_; have GEgd := n8_; clear n8_; have BKgs := n9_; clear n9_; have BKgt := n10_; clear n10_; have BKgn := n11_; clear n11_; have BKgw := n12_; clear n12_; have HB := n13_; clear n13_; have BKgd := n14_; clear n14_; have hgB_gd := Nat.ne_of_lt (hR.lt Hpos.out); rw [← hg] at hgB_gd; have hR2_ := hR.below Hpos.out hb; clear hR; have hR := hR2_; clear hR2_; clear hb hbox hg; have hcz373 : v34.cell? ⟨gn, 0, none⟩ = some (.int .u8 (n0.toNat : Int)) := (blk_cell BKgn.out 0).trans rfl; have hfz373 := blk_frozen BKgn.out 0; have hcz374 : v34.cell? ⟨gn, 1, none⟩ = some (.int .u8 (n1.toNat : Int)) := (blk_cell BKgn.out 1).trans rfl; have hfz374 := blk_frozen BKgn.out 1; have hcz375 : v34.cell? ⟨gn, 2, none⟩ = some (.int .u8 (y0.toNat : Int)) := (blk_cell BKgn.out 2).trans rfl; have hfz375 := blk_frozen BKgn.out 2; have hcz376 : v34.cell? ⟨gn, 3, none⟩ = some (.int .u8 (y1.toNat : Int)) := (blk_cell BKgn.out 3).trans rfl; have hfz376 := blk_frozen BKgn.out 3; have hcz377 : v34.cell? ⟨gn, 4, none⟩ = some (.int .u8 (y2.toNat : Int)) := (blk_cell BKgn.out 4).trans rfl; have hfz377 := blk_frozen BKgn.out 4; have hcz378 : v34.cell? ⟨gn, 5, none⟩ = some (.int .u8 (y3.toNat : Int)) := (blk_cell BKgn.out 5).trans rfl; have hfz378 := blk_frozen BKgn.out 5; have hcz379 : v34.cell? ⟨gw, 0, none⟩ = some (.int .i64 s.q) := (blk_cell BKgw.out 0).trans rfl; have hfz379 := blk_frozen BKgw.out 0; have hcz380 : v34.cell? ⟨gw, 1, none⟩ = some (.int .i64 s.g) := (blk_cell BKgw.out 1).trans rfl; have hfz380 := blk_frozen BKgw.out 1; have hcz381 : v34.cell? ⟨gw, 2, none⟩ = some (.int .i64 s.l) := (blk_cell BKgw.out 2).trans rfl; have hfz381 := blk_frozen BKgw.out 2; have hcz382 : v34.cell? ⟨gw, 3, none⟩ = some (.int .i64 s.r) := (blk_cell BKgw.out 3).trans rfl; have hfz382 := blk_frozen BKgw.out 3; have hcz383 : v34.cell? ⟨gw, 4, none⟩ = some (.int .i64 s.t) := (blk_cell BKgw.out 4).trans rfl; have hfz383 := blk_frozen BKgw.out 4; have hcz384 : v34.cell? ⟨gw, 5, none⟩ = some (.int .i64 s.c) := (blk_cell BKgw.out 5).trans rfl; have hfz384 := blk_frozen BKgw.out 5; have hcz385 : v34.cell? ⟨gd, 0, none⟩ = some (.int .i64 0) := (blk_cell BKgd.out 0).trans rfl; have hfz385 := blk_frozen BKgd.out 0; have hcz386 : v34.cell? ⟨gd, 1, none⟩ = some (.int .i64 0) := (blk_cell BKgd.out 1).trans rfl; have hfz386 := blk_frozen BKgd.out 1; have hcz387 : v34.cell? ⟨gd, 2, none⟩ = some (.int .i64 0) := (blk_cell BKgd.out 2).trans rfl; have hfz387 := blk_frozen BKgd.out 2; have hcz388 : v34.cell? ⟨gd, 3, none⟩ = some (.int .i64 0) := (blk_cell BKgd.out 3).trans rfl; have hfz388 := blk_frozen BKgd.out 3; have hcz389 : v34.cell? ⟨gd, 4, none⟩ = some (.int .i64 0) := (blk_cell BKgd.out 4).trans rfl; have hfz389 := blk_frozen BKgd.out 4; have hcz390 : v34.cell? ⟨gd, 5, none⟩ = some (.int .i64 0) := (blk_cell BKgd.out 5).trans rfl; have hfz390 := blk_frozen BKgd.out 5) | ((with_reducible refine gate_store (t := 43) (p := 15) rfl ?_); refine store_event (t := 43) (p := 15) (v := ?vo_v35) (w1 := ((((((v34.setCell ⟨gd, 0, none⟩ (.int .i64 s.q)).setCell ⟨gd, 1, none⟩ (.int .i64 s.g)).setCell ⟨gd, 2, none⟩ (.int .i64 s.l)).setCell ⟨gd, 3, none⟩ (.int .i64 s.r)).setCell ⟨gd, 4, none⟩ (.int .i64 s.t)).setCell ⟨gd, 5, none⟩ (.int .i64 s.c))) ?hg ?ho ?hn ?hr ?_; (case ho => rfl); (case hg => rfl); (case hn => rfl); (case hr => first | (go_simp; done) | (go_simp; rfl)); intro v35 hw; have n0_ := Aside0.mk (by rw [hw]; (with_reducible repeat (first | refine blk_drewN ?_ _ | refine blk_drew ?_ | refine blk_alloc ?_ _)); refine blk_far ?_ NBgs_gd.out _; (with_reducible repeat (first | refine blk_drewN ?_ _ | refine blk_drew ?_ | refine blk_alloc ?_ _)); refine blk_far ?_ NBgs_gd.out _; (with_reducible repeat (first | refine blk_drewN ?_ _ | refine blk_drew ?_ | refine blk_alloc ?_ _)); refine blk_far ?_ NBgs_gd.out _; (with_reducible repeat (first | refine blk_drewN ?_ _ | refine blk_drew ?_ | refine blk_alloc ?_ _)); refine blk_far ?_ NBgs_gd.out _; (with_reducible repeat (first | refine blk_drewN ?_ _ | refine blk_drew ?_ | refine blk_alloc ?_ _)); refine blk_far ?_ NBgs_gd.out _; (with_reducible repeat (first | refine blk_drewN ?_ _ | refine blk_drew ?_ | refine blk_alloc ?_ _)); refine blk_far ?_ NBgs_gd.out _; (with_reducible repeat (first | refine blk_drewN ?_ _ | refine blk_drew ?_ | refine blk_alloc ?_ _)); exact BKgs.out : v35.heap[gs]? = some (.cells #[.int .i64 s.q, .int .i64 s.g, .int .i64 s.l, .int .i64 s.r, .int .i64 s.t, .int .i64 s.c] 43 (0, 0))); have n1_ := Aside0.mk (by rw [hw]; (with_reducible repeat (first | refine blk_drewN ?_ _ | refine blk_drew ?_ | refine blk_alloc ?_ _)); refine blk_far ?_ NBgt_gd.out _; (with_reducible repeat (first | refine blk_drewN ?_ _ | refine blk_drew ?_ | refine blk_alloc ?_ _)); refine blk_far ?_ NBgt_gd.out _; (with_reducible repeat (first | refine blk_drewN ?_ _ | refine blk_drew ?_ | refine blk_alloc ?_ _)); refine blk_far ?_ NBgt_gd.out _; (with_reducible repeat (first | refine blk_drewN ?_ _ | refine blk_drew ?_ | refine blk_alloc ?_ _)); refine blk_far ?_ NBgt_gd.out _; (with_reducible repeat (first | refine blk_drewN ?_ _ | refine blk_drew ?_ | refine blk_alloc ?_ _)); refine blk_far ?_ NBgt_gd.out _; (with_reducible repeat (first | refine blk_drewN ?_ _ | refine blk_drew ?_ | refine blk_alloc ?_ _)); refine blk_far ?_ NBgt_gd.out _; (with_reducible repeat (first | refine blk_drewN ?_ _ | refine blk_drew ?_ | refine blk_alloc ?_ _)); exact BKgt.out : v35.heap[gt]? = some (.cells #[.int .i64 t.q, .int .i64 t.g, .int .i64 t.l, .int .i64 t.r, .int .i64 t.t, .int .i64 t.c] 43 (0, 0))); have n2_ := Aside0.mk (by rw [hw]; (with_reducible repeat (first | refine blk_drewN ?_ _ | refine blk_drew ?_ | refine blk_alloc ?_ _)); refine blk_far ?_ NBgn_gd.out _; (with_reducible repeat (first | refine blk_drewN ?_ _ | refine blk_drew ?_ | refine blk_alloc ?_ _)); refine blk_far ?_ NBgn_gd.out _; (with_reducible repeat (first | refine blk_drewN ?_ _ | refine blk_drew ?_ | refine blk_alloc ?_ _)); refine blk_far ?_ NBgn_gd.out _; (with_reducible repeat (first | refine blk_drewN ?_ _ | refine blk_drew ?_ | refine blk_alloc ?_ _)); refine blk_far ?_ NBgn_gd.out _; (with_reducible repeat (first | refine blk_drewN ?_ _ | refine blk_drew ?_ | refine blk_alloc ?_ _)); refine blk_far ?_ NBgn_gd.out _; (with_reducible repeat (first | refine blk_drewN ?_ _ | refine blk_drew ?_ | refine blk_alloc ?_ _)); refine blk_far ?_ NBgn_gd.out _; (with_reducible repeat (first | refine blk_drewN ?_ _ | refine blk_drew ?_ | refine blk_alloc ?_ _)); exact BKgn.out : v35.heap[gn]? = some (.cells #[.int .u8 (n0.toNat : Int), .int .u8 (n1.toNat : Int), .int .u8 (y0.toNat : Int), .int .u8 (y1.toNat : Int), .int .u8 (y2.toNat : Int), .int .u8 (y3.toNat : Int)] 57 (0, 0))); have n3_ := Aside0.mk (by rw [hw]; (with_reducible repeat (first | refine blk_drewN ?_ _ | refine blk_drew ?_ | refine blk_alloc ?_ _)); refine blk_far ?_ NBgw_gd.out _; (with_reducible repeat (first | refine blk_drewN ?_ _ | refine blk_drew ?_ | refine blk_alloc ?_ _)); refine blk_far ?_ NBgw_gd.out _; (with_reducible repeat (first | refine blk_drewN ?_ _ | refine blk_drew ?_ | refine blk_alloc ?_ _)); refine blk_far ?_ NBgw_gd.out _; (with_reducible repeat (first | refine blk_drewN ?_ _ | refine blk_drew ?_ | refine blk_alloc ?_ _)); refine blk_far ?_ NBgw_gd.out _; (with_reducible repeat (first | refine blk_drewN ?_ _ | refine blk_drew ?_ | refine blk_alloc ?_ _)); refine blk_far ?_ NBgw_gd.out _; (with_reducible repeat (first | refine blk_drewN ?_ _ | refine blk_drew ?_ | refine blk_alloc ?_ _)); refine blk_far ?_ NBgw_gd.out _; (with_reducible repeat (first | refine blk_drewN ?_ _ | refine blk_drew ?_ | refine blk_alloc ?_ _)); exact BKgw.out : v35.heap[gw]? = some (.cells #[.int .i64 s.q, .int .i64 s.g, .int .i64 s.l, .int .i64 s.r, .int .i64 s.t, .int .i64 s.c] 43 (0, 0))); have n4_ := Aside0.mk (by rw [hw]; (with_reducible repeat (first | refine blk_drewN ?_ _ | refine blk_drew ?_ | refine blk_alloc ?_ _)); refine blk_put (cs := #[.int .i64 s.q, .int .i64 s.g, .int .i64 s.l, .int .i64 s.r, .int .i64 s.t, .int .i64 0]) ?_ 5 _ rfl; (with_reducible repeat (first | refine blk_drewN ?_ _ | refine blk_drew ?_ | refine blk_alloc ?_ _)); refine blk_put (cs := #[.int .i64 s.q, .int .i64 s.g, .int .i64 s.l, .int .i64 s.r, .int .i64 0, .int .i64 0]) ?_ 4 _ rfl; (with_reducible repeat (first | refine blk_drewN ?_ _ | refine blk_drew ?_ | refine blk_alloc ?_ _)); refine blk_put (cs := #[.int .i64 s.q, .int .i64 s.g, .int .i64 s.l, .int .i64 0, .int .i64 0, .int .i64 0]) ?_ 3 _ rfl; (with_reducible repeat (first | refine blk_drewN ?_ _ | refine blk_drew ?_ | refine blk_alloc ?_ _)); refine blk_put (cs := #[.int .i64 s.q, .int .i64 s.g, .int .i64 0, .int .i64 0, .int .i64 0, .int .i64 0]) ?_ 2 _ rfl; (with_reducible repeat (first | refine blk_drewN ?_ _ | refine blk_drew ?_ | refine blk_alloc ?_ _)); refine blk_put (cs := #[.int .i64 s.q, .int .i64 0, .int .i64 0, .int .i64 0, .int .i64 0, .int .i64 0]) ?_ 1 _ rfl; (with_reducible repeat (first | refine blk_drewN ?_ _ | refine blk_drew ?_ | refine blk_alloc ?_ _)); refine blk_put (cs := #[.int .i64 0, .int .i64 0, .int .i64 0, .int .i64 0, .int .i64 0, .int .i64 0]) ?_ 0 _ rfl; (with_reducible repeat (first | refine blk_drewN ?_ _ | refine blk_drew ?_ | refine blk_alloc ?_ _)); exact BKgd.out : v35.heap[gd]? = some (.cells #[.int .i64 s.q, .int .i64 s.g, .int .i64 s.l, .int .i64 s.r, .int .i64 s.t, .int .i64 s.c] 43 (0, 0))); have n5_ := Aside0.mk (by rw [hw]; repeat (first | (with_reducible first | exact HB.out | apply below_alloc | apply pw_below_drewN | apply below_drew1 | refine below_set ?_ GEgs.out | refine below_set ?_ GEgt.out | refine below_set ?_ GEgn.out | refine below_set ?_ GEgw.out | refine below_set ?_ GEgd.out) | exact HB.out) : Below w.heap.size w v35); clear hcz373 hfz373 hcz374 hfz374 hcz375 hfz375 hcz376 hfz376 hcz377 hfz377 hcz378 hfz378 hcz379 hfz379 hcz380 hfz380 hcz381 hfz381 hcz382 hfz382 hcz383 hfz383 hcz384 hfz384 hcz385 hfz385 hcz386 hfz386 hcz387 hfz387 hcz388 hfz388 hcz389 hfz389 hcz390 hfz390; clear BKgs; clear BKgt; clear BKgn; clear BKgw; clear BKgd; clear HB; have BKgs := n0_; clear n0_; have BKgt := n1_; clear n1_; have BKgn := n2_; clear n2_; have BKgw := n3_; clear n3_; have BKgd := n4_; clear n4_; have HB := n5_; clear n5_; have hR2_ : Row v35 g (M0 ++ tl) := (by rw [hw]; exact ((((((hR.far hgB_gd (p := ⟨gd, 0, none⟩) _).far hgB_gd (p := ⟨gd, 1, none⟩) _).far hgB_gd (p := ⟨gd, 2, none⟩) _).far hgB_gd (p := ⟨gd, 3, none⟩) _).far hgB_gd (p := ⟨gd, 4, none⟩) _).far hgB_gd (p := ⟨gd, 5, none⟩) _)); clear hR; have hR := hR2_; clear hR2_; clear hw; have hcz391 : v35.cell? ⟨gn, 0, none⟩ = some (.int .u8 (n0.toNat : Int)) := (blk_cell BKgn.out 0).trans rfl; have hfz391 := blk_frozen BKgn.out 0; have hcz392 : v35.cell? ⟨gn, 1, none⟩ = some (.int .u8 (n1.toNat : Int)) := (blk_cell BKgn.out 1).trans rfl; have hfz392 := blk_frozen BKgn.out 1; have hcz393 : v35.cell? ⟨gn, 2, none⟩ = some (.int .u8 (y0.toNat : Int)) := (blk_cell BKgn.out 2).trans rfl; have hfz393 := blk_frozen BKgn.out 2; have hcz394 : v35.cell? ⟨gn, 3, none⟩ = some (.int .u8 (y1.toNat : Int)) := (blk_cell BKgn.out 3).trans rfl; have hfz394 := blk_frozen BKgn.out 3; have hcz395 : v35.cell? ⟨gn, 4, none⟩ = some (.int .u8 (y2.toNat : Int)) := (blk_cell BKgn.out 4).trans rfl; have hfz395 := blk_frozen BKgn.out 4; have hcz396 : v35.cell? ⟨gn, 5, none⟩ = some (.int .u8 (y3.toNat : Int)) := (blk_cell BKgn.out 5).trans rfl; have hfz396 := blk_frozen BKgn.out 5; have hcz397 : v35.cell? ⟨gw, 0, none⟩ = some (.int .i64 s.q) := (blk_cell BKgw.out 0).trans rfl; have hfz397 := blk_frozen BKgw.out 0; have hcz398 : v35.cell? ⟨gw, 1, none⟩ = some (.int .i64 s.g) := (blk_cell BKgw.out 1).trans rfl; have hfz398 := blk_frozen BKgw.out 1; have hcz399 : v35.cell? ⟨gw, 2, none⟩ = some (.int .i64 s.l) := (blk_cell BKgw.out 2).trans rfl; have hfz399 := blk_frozen BKgw.out 2; have hcz400 : v35.cell? ⟨gw, 3, none⟩ = some (.int .i64 s.r) := (blk_cell BKgw.out 3).trans rfl; have hfz400 := blk_frozen BKgw.out 3; have hcz401 : v35.cell? ⟨gw, 4, none⟩ = some (.int .i64 s.t) := (blk_cell BKgw.out 4).trans rfl; have hfz401 := blk_frozen BKgw.out 4; have hcz402 : v35.cell? ⟨gw, 5, none⟩ = some (.int .i64 s.c) := (blk_cell BKgw.out 5).trans rfl; have hfz402 := blk_frozen BKgw.out 5; have hcz403 : v35.cell? ⟨gd, 0, none⟩ = some (.int .i64 s.q) := (blk_cell BKgd.out 0).trans rfl; have hfz403 := blk_frozen BKgd.out 0; have hcz404 : v35.cell? ⟨gd, 1, none⟩ = some (.int .i64 s.g) := (blk_cell BKgd.out 1).trans rfl; have hfz404 := blk_frozen BKgd.out 1; have hcz405 : v35.cell? ⟨gd, 2, none⟩ = some (.int .i64 s.l) := (blk_cell BKgd.out 2).trans rfl; have hfz405 := blk_frozen BKgd.out 2; have hcz406 : v35.cell? ⟨gd, 3, none⟩ = some (.int .i64 s.r) := (blk_cell BKgd.out 3).trans rfl; have hfz406 := blk_frozen BKgd.out 3; have hcz407 : v35.cell? ⟨gd, 4, none⟩ = some (.int .i64 s.t) := (blk_cell BKgd.out 4).trans rfl; have hfz407 := blk_frozen BKgd.out 4; have hcz408 : v35.cell? ⟨gd, 5, none⟩ = some (.int .i64 s.c) := (blk_cell BKgd.out 5).trans rfl; have hfz408 := blk_frozen BKgd.out 5))
        obtain ⟨k, hk, hk57⟩ := at57 n1
        rw [hk]
        have hrow := hR; have kgn := BKgn.out; have kbel := HB.out
        have Hk := Lib.hid hk57
        have Hpos2 := Hpos
        clear hk hk57 hR HB BKgs BKgt BKgn BKgw BKgd
        clear hcz391 hfz391 hcz392 hfz392 hcz393 hfz393 hcz394 hfz394 hcz395 hfz395 hcz396 hfz396 hcz397 hfz397 hcz398 hfz398 hcz399 hfz399 hcz400 hfz400 hcz401 hfz401 hcz402 hfz402 hcz403 hfz403 hcz404 hfz404 hcz405 hfz405 hcz406 hfz406 hcz407 hfz407 hcz408 hfz408
        go_loopw [18, 19] (fun v18 v19 w' => ∃ (i : Nat) (m : List UInt8) (b : Bool), i ≤ 4 ∧ m.length = 60 ∧ Crc.leNum m = Crc.leNum M0 ^^^ (2 ^ (8 * k) * Crc.leNum ([y0, y1, y2, y3].take i)) ∧ (b = false ↔ Crc.leNum ([y0, y1, y2, y3].take i) = 0) ∧ v19 = .int .i64 (i : Int) ∧ v18 = .bool b ∧ Row w' g (m ++ tl) ∧ w'.heap[gn]? = some (.cells #[.int .u8 (n0.toNat : Int), .int .u8 (n1.toNat : Int), .int .u8 (y0.toNat : Int), .int .u8 (y1.toNat : Int), .int .u8 (y2.toNat : Int), .int .u8 (y3.toNat : Int)] 57 (0, 0)) ∧ Below w.heap.size w w') (fun _ v19 _ => 4 - (intOf v19).toNat)
        case atStart => exact ⟨0, M0, false, by omega, HM0n.out, by rw [List.take_zero]; show _ = Crc.leNum M0 ^^^ (2 ^ (8 * k) * 0); rw [Nat.mul_zero, Nat.xor_zero], ⟨fun _ => rfl, fun _ => rfl⟩, rfl, rfl, hrow, kgn, kbel⟩
        clear hrow kgn kbel
        case round =>
          obtain ⟨i, m, b, hi, hml, hle, hfl, rfl, rfl, hR, hgn, hb⟩ := hrel
          have Hle := Lib.hid hle
          have Hml := Lib.hid hml
          have Hfl := Lib.hid hfl
          clear hle hml hfl
          by_cases hlt : i < 4
          · obtain ⟨y, hyc, hyi⟩ := y_at n0 n1 y0 y1 y2 y3 hgn i hlt
            obtain ⟨j, hj⟩ : ∃ j, j = k + i := ⟨_, rfl⟩
            obtain ⟨j2, hj2⟩ : ∃ j, j = 2 + i := ⟨_, rfl⟩
            have hjw : IntKind.i64.wrap ((k : Int) + (i : Int)) = (j : Int) := by have := Hk.out; rw [i64_w, hj]; unfold wrap64; omega
            have hjw2 : IntKind.i64.wrap (2 + (i : Int)) = (j2 : Int) := by rw [i64_w, hj2]; unfold wrap64; omega
            have hi1 : wrap64 ((i : Int) + 1) = ((i + 1 : Nat) : Int) := by unfold wrap64; omega
            have hj6 : ((j : Int) < 256) = True := eq_true (by have := Hk.out; omega)
            have hj60 : (0 ≤ (j : Int)) = True := eq_true (by omega)
            have hj26 : ((j2 : Int) < 6) = True := eq_true (by omega)
            have hj20 : (0 ≤ (j2 : Int)) = True := eq_true (by omega)
            have hi4 : ((i : Int) < 4) = True := eq_true (by omega)
            rw [← hj2] at hyc
            have hql : j < (m ++ tl).length := by have := Hk.out; rw [List.length_append, Hml.out, Htn.out]; omega
            have hcl := hR.cell _ hql
            have hfr := hR.free _ hql
            obtain ⟨x, hx⟩ : ∃ x, x = (m ++ tl)[j] := ⟨_, rfl⟩
            rw [← hx] at hcl
            have hkm : j < m.length := by have := Hk.out; rw [Hml.out]; omega
            have hxm : m[j] = x := by rw [hx, List.getElem_append_left hkm]
            have hx8 := xor_byte x y
            have hnext : ∀ u : Value, u = .int .u8 (((x ^^^ y).toNat : Nat) : Int) → Row ((wr.setCell ⟨g, j, none⟩ u).drew) g (m.set j (x ^^^ y) ++ tl) := fun u hu => by
              have := hR.set _ hql (x ^^^ y)
              rw [List.set_append_left _ _ hkm] at this
              rw [hu]
              exact ⟨this.cell, this.free⟩
            have hturn : Crc.leNum (m.set j (x ^^^ y)) = Crc.leNum M0 ^^^ (2 ^ (8 * k) * Crc.leNum ([y0, y1, y2, y3].take (i + 1))) := by
              have hi4 : i < [y0, y1, y2, y3].length := hlt
              subst hj
              have := Crc.turn_more M0 m [y0, y1, y2, y3] k i hi4 Hle.out hkm
              rw [hxm, show [y0, y1, y2, y3][i] = y by rw [List.getElem?_eq_getElem hi4] at hyi; exact Option.some.inj hyi] at this
              exact this
            have Hnext := Lib.hid hnext
            have Hturn := Lib.hid hturn
            have Hlt := Lib.hid hlt; have Hyi := Lib.hid hyi; have Hj2 := Lib.hid hj2
            clear hnext hturn hx hxm hyi hql hkm hj hj2 hlt hi
            go_wp2
            have hcl2 : wr.drew.cell? ⟨g, j, none⟩ = some (.int .u8 ((x.toNat : Nat) : Int)) := hcl
            have hyc2 : wr.drew.cell? ⟨gn, j2, none⟩ = some (.int .u8 (y.toNat : Int)) := hyc
            have hfr2 : wr.drew.frozen? ⟨g, j, none⟩ = false := hfr
            refine start_ (n := 13) (S := (fun w' => w'.cell? ⟨g, j, none⟩ = some (.int .u8 ((x.toNat : Nat) : Int)) ∧ w'.cell? ⟨gn, j2, none⟩ = some (.int .u8 (y.toNat : Int)))) (ds := [12]) #[false, false, false, false, false, false, false, false, false, false, false, false, false] (by kernel_rfl) rfl rfl ⟨hcl, hyc⟩ (fun hHeld => ?_)
            refine pure_ (i := 0) (N := (some 110)) (v := ?_) (a' := ?_) #[true, false, false, false, false, false, false, false, false, false, false, false, false] rfl rfl (by kernel_rfl) (fun _ _ _ h => h) (Or.inl ⟨by rfl, ?_⟩) ?_ ?_
            rotate_left
            · intro w'
              go_simp
              with_reducible rfl
            rotate_left
            · simp only [Act.put, List.setIfInBounds_toArray, List.set_cons_zero, List.set_cons_succ]
              rfl
            refine pure_ (i := 1) (N := (some 111)) (v := ?_) (a' := ?_) #[true, true, false, false, false, false, false, false, false, false, false, false, false] rfl rfl (by kernel_rfl) (fun _ _ _ h => h) (Or.inl ⟨by rfl, ?_⟩) ?_ ?_
            rotate_left
            · intro w'
              go_simp
              with_reducible rfl
            rotate_left
            · simp only [Act.put, List.setIfInBounds_toArray, List.set_cons_zero, List.set_cons_succ]
              rfl
            refine pure_ (i := 2) (N := (some 112)) (v := ?_) (a' := ?_) #[true, true, true, false, false, false, false, false, false, false, false, false, false] rfl rfl (by kernel_rfl) (fun _ _ _ h => h) (Or.inl ⟨by rfl, ?_⟩) ?_ ?_
            rotate_left
            · intro w'
              go_simp
              with_reducible rfl
            rotate_left
            · simp only [Act.put, List.setIfInBounds_toArray, List.set_cons_zero, List.set_cons_succ]
              rfl
            refine pure_ (i := 3) (N := (some 113)) (v := ?_) (a' := ?_) #[true, true, true, true, false, false, false, false, false, false, false, false, false] rfl rfl (by kernel_rfl) (fun _ _ _ h => h) (Or.inl ⟨by rfl, ?_⟩) ?_ ?_
            rotate_left
            · intro w'
              go_simp
              with_reducible rfl
            rotate_left
            · simp only [Act.put, List.setIfInBounds_toArray, List.set_cons_zero, List.set_cons_succ]
              rfl
            refine pure_ (i := 4) (N := (some 114)) (v := ?_) (a' := ?_) #[true, true, true, true, true, false, false, false, false, false, false, false, false] rfl rfl (by kernel_rfl) (fun _ _ _ h => h) (Or.inl ⟨by rfl, ?_⟩) ?_ ?_
            rotate_left
            · intro w'
              go_simp
              with_reducible rfl
            rotate_left
            · simp only [Act.put, List.setIfInBounds_toArray, List.set_cons_zero, List.set_cons_succ]
              rfl
            refine take_ (i := 5) (N := (some 115)) (v := ?_) (a' := ?_) #[true, true, true, true, true, true, false, false, false, false, false, false, false] rfl rfl (by kernel_rfl) (fun _ _ _ h => h) (Or.inl ⟨by rfl, ?_⟩) hHeld ?_ ?_
            rotate_left
            · rintro w' ⟨hs1_, hs2_⟩
              go_simp
              with_reducible rfl
            rotate_left
            · simp only [Act.put, List.setIfInBounds_toArray, List.set_cons_zero, List.set_cons_succ]
              rfl
            refine pure_ (i := 6) (N := (some 116)) (v := ?_) (a' := ?_) #[true, true, true, true, true, true, true, false, false, false, false, false, false] rfl rfl (by kernel_rfl) (fun _ _ _ h => h) (Or.inl ⟨by rfl, ?_⟩) ?_ ?_
            rotate_left
            · intro w'
              go_simp
              with_reducible rfl
            rotate_left
            · simp only [Act.put, List.setIfInBounds_toArray, List.set_cons_zero, List.set_cons_succ]
              rfl
            refine pure_ (i := 7) (N := (some 117)) (v := ?_) (a' := ?_) #[true, true, true, true, true, true, true, true, false, false, false, false, false] rfl rfl (by kernel_rfl) (fun _ _ _ h => h) (Or.inl ⟨by rfl, ?_⟩) ?_ ?_
            rotate_left
            · intro w'
              go_simp
              with_reducible rfl
            rotate_left
            · simp only [Act.put, List.setIfInBounds_toArray, List.set_cons_zero, List.set_cons_succ]
              rfl
            refine pure_ (i := 8) (N := (some 118)) (v := ?_) (a' := ?_) #[true, true, true, true, true, true, true, true, true, false, false, false, false] rfl rfl (by kernel_rfl) (fun _ _ _ h => h) (Or.inl ⟨by rfl, ?_⟩) ?_ ?_
            rotate_left
            · intro w'
              go_simp
              with_reducible rfl
            rotate_left
            · simp only [Act.put, List.setIfInBounds_toArray, List.set_cons_zero, List.set_cons_succ]
              rfl
            refine take_ (i := 9) (N := (some 119)) (v := ?_) (a' := ?_) #[true, true, true, true, true, true, true, true, true, true, false, false, false] rfl rfl (by kernel_rfl) (fun _ _ _ h => h) (Or.inl ⟨by rfl, ?_⟩) hHeld ?_ ?_
            rotate_left
            · rintro w' ⟨hs1_, hs2_⟩
              go_simp
              with_reducible rfl
            rotate_left
            · simp only [Act.put, List.setIfInBounds_toArray, List.set_cons_zero, List.set_cons_succ]
              rfl
            refine pure_ (i := 10) (N := (some 120)) (v := ?_) (a' := ?_) #[true, true, true, true, true, true, true, true, true, true, true, false, false] rfl rfl (by kernel_rfl) (fun _ _ _ h => h) (Or.inl ⟨by rfl, ?_⟩) ?_ ?_
            rotate_left
            · intro w'
              go_simp
              with_reducible rfl
            rotate_left
            · simp only [Act.put, List.setIfInBounds_toArray, List.set_cons_zero, List.set_cons_succ]
              rfl
            refine pure_ (i := 11) (N := (some 121)) (v := ?_) (a' := ?_) #[true, true, true, true, true, true, true, true, true, true, true, true, false] rfl rfl (by kernel_rfl) (fun _ _ _ h => h) (Or.inl ⟨by rfl, ?_⟩) ?_ ?_
            rotate_left
            · intro w'
              go_simp
              with_reducible rfl
            rotate_left
            · simp only [Act.put, List.setIfInBounds_toArray, List.set_cons_zero, List.set_cons_succ]
              rfl
            refine last_ (i := 12) (N := none) #[true, true, true, true, true, true, true, true, true, true, true, true, true] rfl rfl (by kernel_rfl) (by decide) (fun K hK => ?_)
            refine skip_ (w1 := ?_) (by rfl) rfl ?_ ?_
            rotate_left
            · go_simp
              rfl
            refine hK.out _ _ ?_
            clear hK K
            refine done_ (by kernel_rfl) ?_
            obtain ⟨W2, hW2⟩ : ∃ W2, W2 = (wr.setCell ⟨g, j, none⟩ (.int .u8 ((x.toNat ^^^ y.toNat : Nat) : Int))).drew := ⟨_, rfl⟩
            have hR2 : Row W2 g (m.set j (x ^^^ y) ++ tl) := by rw [hW2]; exact Hnext.out _ (by rw [UInt8.toNat_xor])
            have hgn2 : W2.heap[gn]? = some (.cells #[.int .u8 (n0.toNat : Int), .int .u8 (n1.toNat : Int), .int .u8 (y0.toNat : Int), .int .u8 (y1.toNat : Int), .int .u8 (y2.toNat : Int), .int .u8 (y3.toNat : Int)] 57 (0, 0)) := by rw [hW2]; exact blk_drew (blk_far hgn gnB _)
            have hb2 : Below w.heap.size w W2 := by rw [hW2]; exact below_drew1 (below_set hb hwB)
            rw [← hW2]
            obtain ⟨y', hyc3, hyi3⟩ := y_at n0 n1 y0 y1 y2 y3 hgn2 i Hlt.out
            obtain rfl : y' = y := Option.some.inj (hyi3.symm.trans Hyi.out)
            rw [← Hj2.out] at hyc3
            clear hcl hfr hyc hcl2 hyc2 hfr2 hgn hR hb hW2 hyi3 hx8 Hnext
            cases b
            · by_cases hy0 : y'.toNat = 0
              · have hyz : (y'.toNat : Int) = 0 := by omega
                rw [hyz] at hyc3
                have Hy0 := Lib.hid hy0; clear hy0 hyz
                go_wp2
                refine ⟨⟨i + 1, m.set j (x ^^^ y'), false, by have := Hlt.out; omega, by rw [List.length_set]; exact Hml.out, Hturn.out, flag_next Hlt.out Hyi.out Hfl.out ⟨fun _ => ⟨rfl, Hy0.out⟩, fun _ => rfl⟩, by go_num, rfl, (by first | exact hR2 | exact ⟨hR2.cell, hR2.free⟩), (by (with_reducible repeat (first | refine blk_drewN ?_ _ | refine blk_drew ?_)); exact hgn2), by repeat (first | (with_reducible first | exact hb2 | apply pw_below_drewN | apply below_drew1) | exact hb2)⟩, ?_⟩
                have := Hlt.out; rw [hi1]; simp only [intOf]; omega
              · have hyz : ((y'.toNat : Int) != 0) = true := by simp; intro h; exact hy0 (by simpa using h)
                have hyz2 : ((y'.toNat : Int) == 0) = false := by rw [Bool.eq_false_iff]; intro h; exact hy0 (by have := beq_iff_eq.1 h; omega)
                have Hy0 := Lib.hid hy0; clear hy0
                go_wp2
                refine ⟨⟨i + 1, m.set j (x ^^^ y'), true, by have := Hlt.out; omega, by rw [List.length_set]; exact Hml.out, Hturn.out, flag_next Hlt.out Hyi.out Hfl.out ⟨fun h => (by cases h), fun h => absurd h.2 Hy0.out⟩, by go_num, rfl, (by first | exact hR2 | exact ⟨hR2.cell, hR2.free⟩), (by (with_reducible repeat (first | refine blk_drewN ?_ _ | refine blk_drew ?_)); exact hgn2), by repeat (first | (with_reducible first | exact hb2 | apply pw_below_drewN | apply below_drew1) | exact hb2)⟩, ?_⟩
                have := Hlt.out; rw [hi1]; simp only [intOf]; omega
            · skip
              go_wp2
              refine ⟨⟨i + 1, m.set j (x ^^^ y'), true, by have := Hlt.out; omega, by rw [List.length_set]; exact Hml.out, Hturn.out, flag_next Hlt.out Hyi.out Hfl.out ⟨fun h => (by cases h), fun h => (by cases h.1)⟩, by go_num, rfl, (by first | exact hR2 | exact ⟨hR2.cell, hR2.free⟩), (by (with_reducible repeat (first | refine blk_drewN ?_ _ | refine blk_drew ?_)); exact hgn2), by repeat (first | (with_reducible first | exact hb2 | apply pw_below_drewN | apply below_drew1) | exact hb2)⟩, ?_⟩
              have := Hlt.out; rw [hi1]; simp only [intOf]; omega
          · have hi4 : decide ((i : Int) < 4) = false := decide_eq_false (by omega)
            obtain rfl : i = 4 := by omega
            have hle4 := Hle.out; have hfl4 := Hfl.out
            rw [show [y0, y1, y2, y3].take 4 = [y0, y1, y2, y3] from rfl] at hle4 hfl4
            obtain ⟨T, hT⟩ : ∃ T, T = txt (m ++ tl) := ⟨_, rfl⟩
            have HcvT := Lib.hid (fun w1 (h : Row w1 g (m ++ tl)) => (conv_row (C := C) (n := 256) (by rw [List.length_append, Hml.out, Htn.out]) h).trans (by rw [← hT]))
            have HposT := Lib.hid (show 0 < (m ++ tl).length by rw [List.length_append, Hml.out]; omega)
            have CT2 := Lib.hid fun W hG => dec_c T W hG
            have BKgn := Aside0.mk hgn; have HB := Aside0.mk hb
            clear Hfl Hcv CD hi hlt hgn hb hi4
            by_cases hd : Crc.leNum [y0, y1, y2, y3] = 0
            · obtain rfl : b = false := hfl4.2 hd
              have hm0 := Crc.burst4_same M0 m [y0, y1, y2, y3] k (by rw [Hml.out, HM0n.out]) hle4 hd
              have hTU : T = U := by rw [hT, hm0]; apply str_ext; rw [txt_data]; exact HL0.out
              rw [show decR T = (s, true) by rw [hTU]; exact dec_pos HI.out] at CT2; dsimp only at CT2
              clear hm0 hTU hle4 hfl4 hT hd
              go_wp2_with fail
              rw [HcvT.out _ hR]
              go_wp2_with fail
              with_reducible refine (CT2.out _ (Glob.below HG.out (by repeat (first | (with_reducible first | exact HB.out | apply below_alloc | apply pw_below_drewN | apply below_drew1 | refine below_set ?_ GEgn.out) | exact HB.out)))).mono ?_
              rintro e v40 ⟨rfl, hb⟩
              have n0_ := Aside0.mk (blk_below (g := gn) (o := .cells #[.int .u8 (n0.toNat : Int), .int .u8 (n1.toNat : Int), .int .u8 (y0.toNat : Int), .int .u8 (y1.toNat : Int), .int .u8 (y2.toNat : Int), .int .u8 (y3.toNat : Int)] 57 (0, 0)) (by (with_reducible repeat (first | refine blk_drewN ?_ _ | refine blk_drew ?_ | refine blk_alloc ?_ _)); exact BKgn.out) hb)
              have n1_ := Aside0.mk (below_step (by repeat (first | (with_reducible first | exact HB.out | apply below_alloc | apply pw_below_drewN | apply below_drew1 | refine below_set ?_ GEgn.out) | exact HB.out)) hb)
              clear BKgn
              clear HB
              have BKgn := n0_; clear n0_
              have HB := n1_; clear n1_
              (try clear hb)
              go_wp2_with (first | ((with_reducible refine gate_dst (N := 20) rfl ?_); (try (refine gate_guard (by rfl) ?_; dsimp only)); refine box_event ?hg (N := 20) ?hd (cs := #[.int .i64 0, .int .i64 0, .int .i64 0, .int .i64 0, .int .i64 0, .int .i64 0]) (t := 43) ?hr ?_; (case hd => rfl); (case hg => rfl); (case hr => first | (go_simp; done) | (go_simp; rfl)); intro ge hg v41 hbox hb; have n0_ := Aside0.mk (by rw [hg]; exact Nat.ne_of_lt (blk_lt (g := gn) (o := .cells #[.int .u8 (n0.toNat : Int), .int .u8 (n1.toNat : Int), .int .u8 (y0.toNat : Int), .int .u8 (y1.toNat : Int), .int .u8 (y2.toNat : Int), .int .u8 (y3.toNat : Int)] 57 (0, 0)) (by (with_reducible repeat (first | refine blk_drewN ?_ _ | refine blk_drew ?_ | refine blk_alloc ?_ _)); exact BKgn.out)) : gn ≠ ge); have n1_ := Aside0.mk (by rw [hg]; exact Nat.ne_of_gt (blk_lt (g := gn) (o := .cells #[.int .u8 (n0.toNat : Int), .int .u8 (n1.toNat : Int), .int .u8 (y0.toNat : Int), .int .u8 (y1.toNat : Int), .int .u8 (y2.toNat : Int), .int .u8 (y3.toNat : Int)] 57 (0, 0)) (by (with_reducible repeat (first | refine blk_drewN ?_ _ | refine blk_drew ?_ | refine blk_alloc ?_ _)); exact BKgn.out)) : ge ≠ gn); have n2_ := Aside0.mk (by rw [hg]; exact below_size (by repeat (first | (with_reducible first | exact HB.out | apply below_alloc | apply pw_below_drewN | apply below_drew1 | refine below_set ?_ GEgn.out) | exact HB.out)) : w.heap.size ≤ ge); have n3_ := Aside0.mk (blk_below (g := gn) (o := .cells #[.int .u8 (n0.toNat : Int), .int .u8 (n1.toNat : Int), .int .u8 (y0.toNat : Int), .int .u8 (y1.toNat : Int), .int .u8 (y2.toNat : Int), .int .u8 (y3.toNat : Int)] 57 (0, 0)) (by (with_reducible repeat (first | refine blk_drewN ?_ _ | refine blk_drew ?_ | refine blk_alloc ?_ _)); exact BKgn.out) hb); have n4_ := Aside0.mk (below_step (by repeat (first | (with_reducible first | exact HB.out | apply below_alloc | apply pw_below_drewN | apply below_drew1 | refine below_set ?_ GEgn.out) | exact HB.out)) hb); have n5_ := Aside0.mk hbox; clear BKgn; clear HB; have NBgn_ge := n0_; clear n0_; have NBge_gn := n1_; clear n1_; have GEge := n2_; clear n2_; have BKgn := n3_; clear n3_; have HB := n4_; clear n4_; have BKge := n5_; clear n5_; clear hb hbox hg; have hcz601 : v41.cell? ⟨ge, 0, none⟩ = some (.int .i64 0) := (blk_cell BKge.out 0).trans rfl; have hfz601 := blk_frozen BKge.out 0; have hcz602 : v41.cell? ⟨ge, 1, none⟩ = some (.int .i64 0) := (blk_cell BKge.out 1).trans rfl; have hfz602 := blk_frozen BKge.out 1; have hcz603 : v41.cell? ⟨ge, 2, none⟩ = some (.int .i64 0) := (blk_cell BKge.out 2).trans rfl; have hfz603 := blk_frozen BKge.out 2; have hcz604 : v41.cell? ⟨ge, 3, none⟩ = some (.int .i64 0) := (blk_cell BKge.out 3).trans rfl; have hfz604 := blk_frozen BKge.out 3; have hcz605 : v41.cell? ⟨ge, 4, none⟩ = some (.int .i64 0) := (blk_cell BKge.out 4).trans rfl; have hfz605 := blk_frozen BKge.out 4; have hcz606 : v41.cell? ⟨ge, 5, none⟩ = some (.int .i64 0) := (blk_cell BKge.out 5).trans rfl; have hfz606 := blk_frozen BKge.out 5) | ((with_reducible refine gate_store (t := 43) (p := 20) rfl ?_); refine store_event (t := 43) (p := 20) (v := ?vo_v42) (w1 := ((((((v41.setCell ⟨ge, 0, none⟩ (.int .i64 s.q)).setCell ⟨ge, 1, none⟩ (.int .i64 s.g)).setCell ⟨ge, 2, none⟩ (.int .i64 s.l)).setCell ⟨ge, 3, none⟩ (.int .i64 s.r)).setCell ⟨ge, 4, none⟩ (.int .i64 s.t)).setCell ⟨ge, 5, none⟩ (.int .i64 s.c))) ?hg ?ho ?hn ?hr ?_; (case ho => rfl); (case hg => rfl); (case hn => rfl); (case hr => first | (go_simp; done) | (go_simp; rfl)); intro v42 hw; have n0_ := Aside0.mk (by rw [hw]; (with_reducible repeat (first | refine blk_drewN ?_ _ | refine blk_drew ?_ | refine blk_alloc ?_ _)); refine blk_far ?_ NBgn_ge.out _; (with_reducible repeat (first | refine blk_drewN ?_ _ | refine blk_drew ?_ | refine blk_alloc ?_ _)); refine blk_far ?_ NBgn_ge.out _; (with_reducible repeat (first | refine blk_drewN ?_ _ | refine blk_drew ?_ | refine blk_alloc ?_ _)); refine blk_far ?_ NBgn_ge.out _; (with_reducible repeat (first | refine blk_drewN ?_ _ | refine blk_drew ?_ | refine blk_alloc ?_ _)); refine blk_far ?_ NBgn_ge.out _; (with_reducible repeat (first | refine blk_drewN ?_ _ | refine blk_drew ?_ | refine blk_alloc ?_ _)); refine blk_far ?_ NBgn_ge.out _; (with_reducible repeat (first | refine blk_drewN ?_ _ | refine blk_drew ?_ | refine blk_alloc ?_ _)); refine blk_far ?_ NBgn_ge.out _; (with_reducible repeat (first | refine blk_drewN ?_ _ | refine blk_drew ?_ | refine blk_alloc ?_ _)); exact BKgn.out : v42.heap[gn]? = some (.cells #[.int .u8 (n0.toNat : Int), .int .u8 (n1.toNat : Int), .int .u8 (y0.toNat : Int), .int .u8 (y1.toNat : Int), .int .u8 (y2.toNat : Int), .int .u8 (y3.toNat : Int)] 57 (0, 0))); have n1_ := Aside0.mk (by rw [hw]; (with_reducible repeat (first | refine blk_drewN ?_ _ | refine blk_drew ?_ | refine blk_alloc ?_ _)); refine blk_put (cs := #[.int .i64 s.q, .int .i64 s.g, .int .i64 s.l, .int .i64 s.r, .int .i64 s.t, .int .i64 0]) ?_ 5 _ rfl; (with_reducible repeat (first | refine blk_drewN ?_ _ | refine blk_drew ?_ | refine blk_alloc ?_ _)); refine blk_put (cs := #[.int .i64 s.q, .int .i64 s.g, .int .i64 s.l, .int .i64 s.r, .int .i64 0, .int .i64 0]) ?_ 4 _ rfl; (with_reducible repeat (first | refine blk_drewN ?_ _ | refine blk_drew ?_ | refine blk_alloc ?_ _)); refine blk_put (cs := #[.int .i64 s.q, .int .i64 s.g, .int .i64 s.l, .int .i64 0, .int .i64 0, .int .i64 0]) ?_ 3 _ rfl; (with_reducible repeat (first | refine blk_drewN ?_ _ | refine blk_drew ?_ | refine blk_alloc ?_ _)); refine blk_put (cs := #[.int .i64 s.q, .int .i64 s.g, .int .i64 0, .int .i64 0, .int .i64 0, .int .i64 0]) ?_ 2 _ rfl; (with_reducible repeat (first | refine blk_drewN ?_ _ | refine blk_drew ?_ | refine blk_alloc ?_ _)); refine blk_put (cs := #[.int .i64 s.q, .int .i64 0, .int .i64 0, .int .i64 0, .int .i64 0, .int .i64 0]) ?_ 1 _ rfl; (with_reducible repeat (first | refine blk_drewN ?_ _ | refine blk_drew ?_ | refine blk_alloc ?_ _)); refine blk_put (cs := #[.int .i64 0, .int .i64 0, .int .i64 0, .int .i64 0, .int .i64 0, .int .i64 0]) ?_ 0 _ rfl; (with_reducible repeat (first | refine blk_drewN ?_ _ | refine blk_drew ?_ | refine blk_alloc ?_ _)); exact BKge.out : v42.heap[ge]? = some (.cells #[.int .i64 s.q, .int .i64 s.g, .int .i64 s.l, .int .i64 s.r, .int .i64 s.t, .int .i64 s.c] 43 (0, 0))); have n2_ := Aside0.mk (by rw [hw]; repeat (first | (with_reducible first | exact HB.out | apply below_alloc | apply pw_below_drewN | apply below_drew1 | refine below_set ?_ GEgn.out | refine below_set ?_ GEge.out) | exact HB.out) : Below w.heap.size w v42); clear hcz601 hfz601 hcz602 hfz602 hcz603 hfz603 hcz604 hfz604 hcz605 hfz605 hcz606 hfz606; clear BKgn; clear BKge; clear HB; have BKgn := n0_; clear n0_; have BKge := n1_; clear n1_; have HB := n2_; clear n2_; clear hw))
              with_reducible refine (CW.out _ (Glob.below HG.out (by repeat (first | (with_reducible first | exact HB.out | apply below_alloc | apply pw_below_drewN | apply below_drew1 | refine below_set ?_ GEgn.out | refine below_set ?_ GEge.out) | exact HB.out)))).mono ?_
              rintro e v43 ⟨rfl, hb⟩
              have n0_ := Aside0.mk (blk_below (g := gn) (o := .cells #[.int .u8 (n0.toNat : Int), .int .u8 (n1.toNat : Int), .int .u8 (y0.toNat : Int), .int .u8 (y1.toNat : Int), .int .u8 (y2.toNat : Int), .int .u8 (y3.toNat : Int)] 57 (0, 0)) (by (with_reducible repeat (first | refine blk_drewN ?_ _ | refine blk_drew ?_ | refine blk_alloc ?_ _)); exact BKgn.out) hb)
              have n1_ := Aside0.mk (blk_below (g := ge) (o := .cells #[.int .i64 s.q, .int .i64 s.g, .int .i64 s.l, .int .i64 s.r, .int .i64 s.t, .int .i64 s.c] 43 (0, 0)) (by (with_reducible repeat (first | refine blk_drewN ?_ _ | refine blk_drew ?_ | refine blk_alloc ?_ _)); exact BKge.out) hb)
              have n2_ := Aside0.mk (below_step (by repeat (first | (with_reducible first | exact HB.out | apply below_alloc | apply pw_below_drewN | apply below_drew1 | refine below_set ?_ GEgn.out | refine below_set ?_ GEge.out) | exact HB.out)) hb)
              clear BKgn
              clear BKge
              clear HB
              have BKgn := n0_; clear n0_
              have BKge := n1_; clear n1_
              have HB := n2_; clear n2_
              (try clear hb)
              go_wp2_with fail
              go_ret
              exact ⟨rfl, by repeat (first | (with_reducible first | exact HB.out | apply below_alloc | apply pw_below_drewN | apply below_drew1 | refine below_set ?_ GEgn.out | refine below_set ?_ GEge.out) | exact HB.out)⟩
            · obtain rfl : b = true := by cases b; exact absurd (hfl4.1 rfl) hd; rfl
              have hn := torn_none HI.out (T := T) HL0.out HM0n.out Hml.out hT rfl (k := k) (by have := Hk.out; omega) hle4 hd
              rw [hn] at CT2; dsimp only [Sb.zero] at CT2
              clear hn hle4 hfl4 hT hd
              go_wp2_with fail
              rw [HcvT.out _ hR]
              go_wp2_with fail
              with_reducible refine (CT2.out _ (Glob.below HG.out (by repeat (first | (with_reducible first | exact HB.out | apply below_alloc | apply pw_below_drewN | apply below_drew1 | refine below_set ?_ GEgn.out) | exact HB.out)))).mono ?_
              rintro e v40 ⟨rfl, hb⟩
              have n0_ := Aside0.mk (blk_below (g := gn) (o := .cells #[.int .u8 (n0.toNat : Int), .int .u8 (n1.toNat : Int), .int .u8 (y0.toNat : Int), .int .u8 (y1.toNat : Int), .int .u8 (y2.toNat : Int), .int .u8 (y3.toNat : Int)] 57 (0, 0)) (by (with_reducible repeat (first | refine blk_drewN ?_ _ | refine blk_drew ?_ | refine blk_alloc ?_ _)); exact BKgn.out) hb)
              have n1_ := Aside0.mk (below_step (by repeat (first | (with_reducible first | exact HB.out | apply below_alloc | apply pw_below_drewN | apply below_drew1 | refine below_set ?_ GEgn.out) | exact HB.out)) hb)
              clear BKgn
              clear HB
              have BKgn := n0_; clear n0_
              have HB := n1_; clear n1_
              (try clear hb)
              go_wp2_with (first | ((with_reducible refine gate_dst (N := 20) rfl ?_); (try (refine gate_guard (by rfl) ?_; dsimp only)); refine box_event ?hg (N := 20) ?hd (cs := #[.int .i64 0, .int .i64 0, .int .i64 0, .int .i64 0, .int .i64 0, .int .i64 0]) (t := 43) ?hr ?_; (case hd => rfl); (case hg => rfl); (case hr => first | (go_simp; done) | (go_simp; rfl)); intro ge hg v41 hbox hb; have n0_ := Aside0.mk (by rw [hg]; exact Nat.ne_of_lt (blk_lt (g := gn) (o := .cells #[.int .u8 (n0.toNat : Int), .int .u8 (n1.toNat : Int), .int .u8 (y0.toNat : Int), .int .u8 (y1.toNat : Int), .int .u8 (y2.toNat : Int), .int .u8 (y3.toNat : Int)] 57 (0, 0)) (by (with_reducible repeat (first | refine blk_drewN ?_ _ | refine blk_drew ?_ | refine blk_alloc ?_ _)); exact BKgn.out)) : gn ≠ ge); have n1_ := Aside0.mk (by rw [hg]; exact Nat.ne_of_gt (blk_lt (g := gn) (o := .cells #[.int .u8 (n0.toNat : Int), .int .u8 (n1.toNat : Int), .int .u8 (y0.toNat : Int), .int .u8 (y1.toNat : Int), .int .u8 (y2.toNat : Int), .int .u8 (y3.toNat : Int)] 57 (0, 0)) (by (with_reducible repeat (first | refine blk_drewN ?_ _ | refine blk_drew ?_ | refine blk_alloc ?_ _)); exact BKgn.out)) : ge ≠ gn); have n2_ := Aside0.mk (by rw [hg]; exact below_size (by repeat (first | (with_reducible first | exact HB.out | apply below_alloc | apply pw_below_drewN | apply below_drew1 | refine below_set ?_ GEgn.out) | exact HB.out)) : w.heap.size ≤ ge); have n3_ := Aside0.mk (blk_below (g := gn) (o := .cells #[.int .u8 (n0.toNat : Int), .int .u8 (n1.toNat : Int), .int .u8 (y0.toNat : Int), .int .u8 (y1.toNat : Int), .int .u8 (y2.toNat : Int), .int .u8 (y3.toNat : Int)] 57 (0, 0)) (by (with_reducible repeat (first | refine blk_drewN ?_ _ | refine blk_drew ?_ | refine blk_alloc ?_ _)); exact BKgn.out) hb); have n4_ := Aside0.mk (below_step (by repeat (first | (with_reducible first | exact HB.out | apply below_alloc | apply pw_below_drewN | apply below_drew1 | refine below_set ?_ GEgn.out) | exact HB.out)) hb); have n5_ := Aside0.mk hbox; clear BKgn; clear HB; have NBgn_ge := n0_; clear n0_; have NBge_gn := n1_; clear n1_; have GEge := n2_; clear n2_; have BKgn := n3_; clear n3_; have HB := n4_; clear n4_; have BKge := n5_; clear n5_; clear hb hbox hg; have hcz601 : v41.cell? ⟨ge, 0, none⟩ = some (.int .i64 0) := (blk_cell BKge.out 0).trans rfl; have hfz601 := blk_frozen BKge.out 0; have hcz602 : v41.cell? ⟨ge, 1, none⟩ = some (.int .i64 0) := (blk_cell BKge.out 1).trans rfl; have hfz602 := blk_frozen BKge.out 1; have hcz603 : v41.cell? ⟨ge, 2, none⟩ = some (.int .i64 0) := (blk_cell BKge.out 2).trans rfl; have hfz603 := blk_frozen BKge.out 2; have hcz604 : v41.cell? ⟨ge, 3, none⟩ = some (.int .i64 0) := (blk_cell BKge.out 3).trans rfl; have hfz604 := blk_frozen BKge.out 3; have hcz605 : v41.cell? ⟨ge, 4, none⟩ = some (.int .i64 0) := (blk_cell BKge.out 4).trans rfl; have hfz605 := blk_frozen BKge.out 4; have hcz606 : v41.cell? ⟨ge, 5, none⟩ = some (.int .i64 0) := (blk_cell BKge.out 5).trans rfl; have hfz606 := blk_frozen BKge.out 5) | ((with_reducible refine gate_store (t := 43) (p := 20) rfl ?_); refine store_event (t := 43) (p := 20) (v := ?vo_v42) (w1 := ((((((v41.setCell ⟨ge, 0, none⟩ (.int .i64 0)).setCell ⟨ge, 1, none⟩ (.int .i64 0)).setCell ⟨ge, 2, none⟩ (.int .i64 0)).setCell ⟨ge, 3, none⟩ (.int .i64 0)).setCell ⟨ge, 4, none⟩ (.int .i64 0)).setCell ⟨ge, 5, none⟩ (.int .i64 0))) ?hg ?ho ?hn ?hr ?_; (case ho => rfl); (case hg => rfl); (case hn => rfl); (case hr => first | (go_simp; done) | (go_simp; rfl)); intro v42 hw; have n0_ := Aside0.mk (by rw [hw]; (with_reducible repeat (first | refine blk_drewN ?_ _ | refine blk_drew ?_ | refine blk_alloc ?_ _)); refine blk_far ?_ NBgn_ge.out _; (with_reducible repeat (first | refine blk_drewN ?_ _ | refine blk_drew ?_ | refine blk_alloc ?_ _)); refine blk_far ?_ NBgn_ge.out _; (with_reducible repeat (first | refine blk_drewN ?_ _ | refine blk_drew ?_ | refine blk_alloc ?_ _)); refine blk_far ?_ NBgn_ge.out _; (with_reducible repeat (first | refine blk_drewN ?_ _ | refine blk_drew ?_ | refine blk_alloc ?_ _)); refine blk_far ?_ NBgn_ge.out _; (with_reducible repeat (first | refine blk_drewN ?_ _ | refine blk_drew ?_ | refine blk_alloc ?_ _)); refine blk_far ?_ NBgn_ge.out _; (with_reducible repeat (first | refine blk_drewN ?_ _ | refine blk_drew ?_ | refine blk_alloc ?_ _)); refine blk_far ?_ NBgn_ge.out _; (with_reducible repeat (first | refine blk_drewN ?_ _ | refine blk_drew ?_ | refine blk_alloc ?_ _)); exact BKgn.out : v42.heap[gn]? = some (.cells #[.int .u8 (n0.toNat : Int), .int .u8 (n1.toNat : Int), .int .u8 (y0.toNat : Int), .int .u8 (y1.toNat : Int), .int .u8 (y2.toNat : Int), .int .u8 (y3.toNat : Int)] 57 (0, 0))); have n1_ := Aside0.mk (by rw [hw]; (with_reducible repeat (first | refine blk_drewN ?_ _ | refine blk_drew ?_ | refine blk_alloc ?_ _)); refine blk_put (cs := #[.int .i64 0, .int .i64 0, .int .i64 0, .int .i64 0, .int .i64 0, .int .i64 0]) ?_ 5 _ rfl; (with_reducible repeat (first | refine blk_drewN ?_ _ | refine blk_drew ?_ | refine blk_alloc ?_ _)); refine blk_put (cs := #[.int .i64 0, .int .i64 0, .int .i64 0, .int .i64 0, .int .i64 0, .int .i64 0]) ?_ 4 _ rfl; (with_reducible repeat (first | refine blk_drewN ?_ _ | refine blk_drew ?_ | refine blk_alloc ?_ _)); refine blk_put (cs := #[.int .i64 0, .int .i64 0, .int .i64 0, .int .i64 0, .int .i64 0, .int .i64 0]) ?_ 3 _ rfl; (with_reducible repeat (first | refine blk_drewN ?_ _ | refine blk_drew ?_ | refine blk_alloc ?_ _)); refine blk_put (cs := #[.int .i64 0, .int .i64 0, .int .i64 0, .int .i64 0, .int .i64 0, .int .i64 0]) ?_ 2 _ rfl; (with_reducible repeat (first | refine blk_drewN ?_ _ | refine blk_drew ?_ | refine blk_alloc ?_ _)); refine blk_put (cs := #[.int .i64 0, .int .i64 0, .int .i64 0, .int .i64 0, .int .i64 0, .int .i64 0]) ?_ 1 _ rfl; (with_reducible repeat (first | refine blk_drewN ?_ _ | refine blk_drew ?_ | refine blk_alloc ?_ _)); refine blk_put (cs := #[.int .i64 0, .int .i64 0, .int .i64 0, .int .i64 0, .int .i64 0, .int .i64 0]) ?_ 0 _ rfl; (with_reducible repeat (first | refine blk_drewN ?_ _ | refine blk_drew ?_ | refine blk_alloc ?_ _)); exact BKge.out : v42.heap[ge]? = some (.cells #[.int .i64 0, .int .i64 0, .int .i64 0, .int .i64 0, .int .i64 0, .int .i64 0] 43 (0, 0))); have n2_ := Aside0.mk (by rw [hw]; repeat (first | (with_reducible first | exact HB.out | apply below_alloc | apply pw_below_drewN | apply below_drew1 | refine below_set ?_ GEgn.out | refine below_set ?_ GEge.out) | exact HB.out) : Below w.heap.size w v42); clear hcz601 hfz601 hcz602 hfz602 hcz603 hfz603 hcz604 hfz604 hcz605 hfz605 hcz606 hfz606; clear BKgn; clear BKge; clear HB; have BKgn := n0_; clear n0_; have BKge := n1_; clear n1_; have HB := n2_; clear n2_; clear hw))
              with_reducible refine (CW.out _ (Glob.below HG.out (by repeat (first | (with_reducible first | exact HB.out | apply below_alloc | apply pw_below_drewN | apply below_drew1 | refine below_set ?_ GEgn.out | refine below_set ?_ GEge.out) | exact HB.out)))).mono ?_
              rintro e v43 ⟨rfl, hb⟩
              have n0_ := Aside0.mk (blk_below (g := gn) (o := .cells #[.int .u8 (n0.toNat : Int), .int .u8 (n1.toNat : Int), .int .u8 (y0.toNat : Int), .int .u8 (y1.toNat : Int), .int .u8 (y2.toNat : Int), .int .u8 (y3.toNat : Int)] 57 (0, 0)) (by (with_reducible repeat (first | refine blk_drewN ?_ _ | refine blk_drew ?_ | refine blk_alloc ?_ _)); exact BKgn.out) hb)
              have n1_ := Aside0.mk (blk_below (g := ge) (o := .cells #[.int .i64 0, .int .i64 0, .int .i64 0, .int .i64 0, .int .i64 0, .int .i64 0] 43 (0, 0)) (by (with_reducible repeat (first | refine blk_drewN ?_ _ | refine blk_drew ?_ | refine blk_alloc ?_ _)); exact BKge.out) hb)
              have n2_ := Aside0.mk (below_step (by repeat (first | (with_reducible first | exact HB.out | apply below_alloc | apply pw_below_drewN | apply below_drew1 | refine below_set ?_ GEgn.out | refine below_set ?_ GEge.out) | exact HB.out)) hb)
              clear BKgn
              clear BKge
              clear HB
              have BKgn := n0_; clear n0_
              have BKge := n1_; clear n1_
              have HB := n2_; clear n2_
              (try clear hb)
              go_wp2_with fail
              go_ret
              exact ⟨rfl, by repeat (first | (with_reducible first | exact HB.out | apply below_alloc | apply pw_below_drewN | apply below_drew1 | refine below_set ?_ GEgn.out | refine below_set ?_ GEge.out) | exact HB.out)⟩
  · skip
    have Hw := Lib.hid hw; clear hw
    have hI := enc_sup h2
    obtain ⟨A, hA⟩ : ∃ A, A = strOfNums (encL s) := ⟨_, rfl⟩
    obtain ⟨B, hB⟩ : ∃ B, B = strOfNums (encL t) := ⟨_, rfl⟩
    obtain ⟨U, hU⟩ : ∃ U, U = strOfNums (encL t) := ⟨_, rfl⟩
    have hUW : U = B := by rw [hU, hB]
    have HP := Lib.hid (fun (F : ByteArray) (i : Nat) (hi : i < 4) (hF : F = A ∨ F = B) (h0 : i = 0 → F = U) => piece (s := s) (t := t) (want := t) i hi (hF.imp (fun e => e.trans hA) (fun e => e.trans hB)) (fun e => (h0 e).trans hU))
    have hsA : A.size = 256 := by rw [hA, str_size, encL_len]
    have hsB : B.size = 256 := by rw [hB, str_size, encL_len]
    rw [← hU] at hI; rw [← hA] at CS; rw [← hB] at CT
    have HI := Lib.hid hI; have HSA := Lib.hid hsA; have HSB := Lib.hid hsB; have HUW := Lib.hid hUW; have HU := Lib.hid hU
    have zf1 : ((A.size : Int) == 256) = true := by rw [hsA]; rfl
    have zf2 : ((B.size : Int) == 256) = true := by rw [hsB]; rfl
    have zf3 : ((A.size : Int) != 256) = false := by rw [hsA]; rfl
    have zf4 : ((B.size : Int) != 256) = false := by rw [hsB]; rfl
    have zf5 : (A.size : Int) = 256 := by rw [hsA]; rfl
    have zf6 : (B.size : Int) = 256 := by rw [hsB]; rfl
    clear hI hsA hsB hU hA hB hUW h1 h2
    go_enter Tryd.func7, Tryd.ntmps7
    go_wp2_with (first | ((with_reducible refine gate_dst (N := 3) rfl ?_); (try (refine gate_guard (by rfl) ?_; dsimp only)); refine box_event ?hg (N := 3) ?hd (cs := #[.int .i64 s.q, .int .i64 s.g, .int .i64 s.l, .int .i64 s.r, .int .i64 s.t, .int .i64 s.c]) (t := 43) ?hr ?_; (case hd => rfl); (case hg => rfl); (case hr => first | (go_simp; done) | (go_simp; rfl)); intro gs hg v1 hbox hb; have n0_ := Aside0.mk (by rw [hg]; exact below_size (by repeat (first | (with_reducible first | exact HB.out | apply below_alloc | apply pw_below_drewN | apply below_drew1) | exact HB.out)) : w.heap.size ≤ gs); have n1_ := Aside0.mk (below_step (by repeat (first | (with_reducible first | exact HB.out | apply below_alloc | apply pw_below_drewN | apply below_drew1) | exact HB.out)) hb); have n2_ := Aside0.mk hbox; clear HB; have GEgs := n0_; clear n0_; have HB := n1_; clear n1_; have BKgs := n2_; clear n2_; clear hb hbox hg; have hcz1 : v1.cell? ⟨gs, 0, none⟩ = some (.int .i64 s.q) := (blk_cell BKgs.out 0).trans rfl; have hfz1 := blk_frozen BKgs.out 0; have hcz2 : v1.cell? ⟨gs, 1, none⟩ = some (.int .i64 s.g) := (blk_cell BKgs.out 1).trans rfl; have hfz2 := blk_frozen BKgs.out 1; have hcz3 : v1.cell? ⟨gs, 2, none⟩ = some (.int .i64 s.l) := (blk_cell BKgs.out 2).trans rfl; have hfz3 := blk_frozen BKgs.out 2; have hcz4 : v1.cell? ⟨gs, 3, none⟩ = some (.int .i64 s.r) := (blk_cell BKgs.out 3).trans rfl; have hfz4 := blk_frozen BKgs.out 3; have hcz5 : v1.cell? ⟨gs, 4, none⟩ = some (.int .i64 s.t) := (blk_cell BKgs.out 4).trans rfl; have hfz5 := blk_frozen BKgs.out 4; have hcz6 : v1.cell? ⟨gs, 5, none⟩ = some (.int .i64 s.c) := (blk_cell BKgs.out 5).trans rfl; have hfz6 := blk_frozen BKgs.out 5) | ((with_reducible refine gate_dst (N := 4) rfl ?_); (try (refine gate_guard (by rfl) ?_; dsimp only)); refine box_event ?hg (N := 4) ?hd (cs := #[.int .i64 t.q, .int .i64 t.g, .int .i64 t.l, .int .i64 t.r, .int .i64 t.t, .int .i64 t.c]) (t := 43) ?hr ?_; (case hd => rfl); (case hg => rfl); (case hr => first | (go_simp; done) | (go_simp; rfl)); intro gt hg v2 hbox hb; have n0_ := Aside0.mk (by rw [hg]; exact Nat.ne_of_lt (blk_lt (g := gs) (o := .cells #[.int .i64 s.q, .int .i64 s.g, .int .i64 s.l, .int .i64 s.r, .int .i64 s.t, .int .i64 s.c] 43 (0, 0)) (by (with_reducible repeat (first | refine blk_drewN ?_ _ | refine blk_drew ?_ | refine blk_alloc ?_ _)); exact BKgs.out)) : gs ≠ gt); have n1_ := Aside0.mk (by rw [hg]; exact Nat.ne_of_gt (blk_lt (g := gs) (o := .cells #[.int .i64 s.q, .int .i64 s.g, .int .i64 s.l, .int .i64 s.r, .int .i64 s.t, .int .i64 s.c] 43 (0, 0)) (by (with_reducible repeat (first | refine blk_drewN ?_ _ | refine blk_drew ?_ | refine blk_alloc ?_ _)); exact BKgs.out)) : gt ≠ gs); have n2_ := Aside0.mk (by rw [hg]; exact below_size (by repeat (first | (with_reducible first | exact HB.out | apply below_alloc | apply pw_below_drewN | apply below_drew1 | refine below_set ?_ GEgs.out) | exact HB.out)) : w.heap.size ≤ gt); have n3_ := Aside0.mk (blk_below (g := gs) (o := .cells #[.int .i64 s.q, .int .i64 s.g, .int .i64 s.l, .int .i64 s.r, .int .i64 s.t, .int .i64 s.c] 43 (0, 0)) (by (with_reducible repeat (first | refine blk_drewN ?_ _ | refine blk_drew ?_ | refine blk_alloc ?_ _)); exact BKgs.out) hb); have n4_ := Aside0.mk (below_step (by repeat (first | (with_reducible first | exact HB.out | apply below_alloc | apply pw_below_drewN | apply below_drew1 | refine below_set ?_ GEgs.out) | exact HB.out)) hb); have n5_ := Aside0.mk hbox; clear hcz1 hfz1 hcz2 hfz2 hcz3 hfz3 hcz4 hfz4 hcz5 hfz5 hcz6 hfz6; clear BKgs; clear HB; have NBgs_gt := n0_; clear n0_; have NBgt_gs := n1_; clear n1_; have GEgt := n2_; clear n2_; have BKgs := n3_; clear n3_; have HB := n4_; clear n4_; have BKgt := n5_; clear n5_; clear hb hbox hg; have hcz7 : v2.cell? ⟨gs, 0, none⟩ = some (.int .i64 s.q) := (blk_cell BKgs.out 0).trans rfl; have hfz7 := blk_frozen BKgs.out 0; have hcz8 : v2.cell? ⟨gs, 1, none⟩ = some (.int .i64 s.g) := (blk_cell BKgs.out 1).trans rfl; have hfz8 := blk_frozen BKgs.out 1; have hcz9 : v2.cell? ⟨gs, 2, none⟩ = some (.int .i64 s.l) := (blk_cell BKgs.out 2).trans rfl; have hfz9 := blk_frozen BKgs.out 2; have hcz10 : v2.cell? ⟨gs, 3, none⟩ = some (.int .i64 s.r) := (blk_cell BKgs.out 3).trans rfl; have hfz10 := blk_frozen BKgs.out 3; have hcz11 : v2.cell? ⟨gs, 4, none⟩ = some (.int .i64 s.t) := (blk_cell BKgs.out 4).trans rfl; have hfz11 := blk_frozen BKgs.out 4; have hcz12 : v2.cell? ⟨gs, 5, none⟩ = some (.int .i64 s.c) := (blk_cell BKgs.out 5).trans rfl; have hfz12 := blk_frozen BKgs.out 5; have hcz13 : v2.cell? ⟨gt, 0, none⟩ = some (.int .i64 t.q) := (blk_cell BKgt.out 0).trans rfl; have hfz13 := blk_frozen BKgt.out 0; have hcz14 : v2.cell? ⟨gt, 1, none⟩ = some (.int .i64 t.g) := (blk_cell BKgt.out 1).trans rfl; have hfz14 := blk_frozen BKgt.out 1; have hcz15 : v2.cell? ⟨gt, 2, none⟩ = some (.int .i64 t.l) := (blk_cell BKgt.out 2).trans rfl; have hfz15 := blk_frozen BKgt.out 2; have hcz16 : v2.cell? ⟨gt, 3, none⟩ = some (.int .i64 t.r) := (blk_cell BKgt.out 3).trans rfl; have hfz16 := blk_frozen BKgt.out 3; have hcz17 : v2.cell? ⟨gt, 4, none⟩ = some (.int .i64 t.t) := (blk_cell BKgt.out 4).trans rfl; have hfz17 := blk_frozen BKgt.out 4; have hcz18 : v2.cell? ⟨gt, 5, none⟩ = some (.int .i64 t.c) := (blk_cell BKgt.out 5).trans rfl; have hfz18 := blk_frozen BKgt.out 5) | ((with_reducible refine gate_dst (N := 5) rfl ?_); (try (refine gate_guard (by rfl) ?_; dsimp only)); refine box_event ?hg (N := 5) ?hd (cs := #[.int .u8 (n0.toNat : Int), .int .u8 (n1.toNat : Int), .int .u8 (y0.toNat : Int), .int .u8 (y1.toNat : Int), .int .u8 (y2.toNat : Int), .int .u8 (y3.toNat : Int)]) (t := 57) ?hr ?_; (case hd => rfl); (case hg => rfl); (case hr => first | (go_simp; done) | (go_simp; rfl)); intro gn hg v3 hbox hb; have n0_ := Aside0.mk (by rw [hg]; exact Nat.ne_of_lt (blk_lt (g := gs) (o := .cells #[.int .i64 s.q, .int .i64 s.g, .int .i64 s.l, .int .i64 s.r, .int .i64 s.t, .int .i64 s.c] 43 (0, 0)) (by (with_reducible repeat (first | refine blk_drewN ?_ _ | refine blk_drew ?_ | refine blk_alloc ?_ _)); exact BKgs.out)) : gs ≠ gn); have n1_ := Aside0.mk (by rw [hg]; exact Nat.ne_of_gt (blk_lt (g := gs) (o := .cells #[.int .i64 s.q, .int .i64 s.g, .int .i64 s.l, .int .i64 s.r, .int .i64 s.t, .int .i64 s.c] 43 (0, 0)) (by (with_reducible repeat (first | refine blk_drewN ?_ _ | refine blk_drew ?_ | refine blk_alloc ?_ _)); exact BKgs.out)) : gn ≠ gs); have n2_ := Aside0.mk (by rw [hg]; exact Nat.ne_of_lt (blk_lt (g := gt) (o := .cells #[.int .i64 t.q, .int .i64 t.g, .int .i64 t.l, .int .i64 t.r, .int .i64 t.t, .int .i64 t.c] 43 (0, 0)) (by (with_reducible repeat (first | refine blk_drewN ?_ _ | refine blk_drew ?_ | refine blk_alloc ?_ _)); exact BKgt.out)) : gt ≠ gn); have n3_ := Aside0.mk (by rw [hg]; exact Nat.ne_of_gt (blk_lt (g := gt) (o := .cells #[.int .i64 t.q, .int .i64 t.g, .int .i64 t.l, .int .i64 t.r, .int .i64 t.t, .int .i64 t.c] 43 (0, 0)) (by (with_reducible repeat (first | refine blk_drewN ?_ _ | refine blk_drew ?_ | refine blk_alloc ?_ _)); exact BKgt.out)) : gn ≠ gt); have n4_ := Aside0.mk (by rw [hg]; exact below_size (by repeat (first | (with_reducible first | exact HB.out | apply below_alloc | apply pw_below_drewN | apply below_drew1 | refine below_set ?_ GEgs.out | refine below_set ?_ GEgt.out) | exact HB.out)) : w.heap.size ≤ gn); have n5_ := Aside0.mk (blk_below (g := gs) (o := .cells #[.int .i64 s.q, .int .i64 s.g, .int .i64 s.l, .int .i64 s.r, .int .i64 s.t, .int .i64 s.c] 43 (0, 0)) (by (with_reducible repeat (first | refine blk_drewN ?_ _ | refine blk_drew ?_ | refine blk_alloc ?_ _)); exact BKgs.out) hb); have n6_ := Aside0.mk (blk_below (g := gt) (o := .cells #[.int .i64 t.q, .int .i64 t.g, .int .i64 t.l, .int .i64 t.r, .int .i64 t.t, .int .i64 t.c] 43 (0, 0)) (by (with_reducible repeat (first | refine blk_drewN ?_ _ | refine blk_drew ?_ | refine blk_alloc ?_ _)); exact BKgt.out) hb); have n7_ := Aside0.mk (below_step (by repeat (first | (with_reducible first | exact HB.out | apply below_alloc | apply pw_below_drewN | apply below_drew1 | refine below_set ?_ GEgs.out | refine below_set ?_ GEgt.out) | exact HB.out)) hb); have n8_ := Aside0.mk hbox; clear hcz7 hfz7 hcz8 hfz8 hcz9 hfz9 hcz10 hfz10 hcz11 hfz11 hcz12 hfz12 hcz13 hfz13 hcz14 hfz14 hcz15 hfz15 hcz16 hfz16 hcz17 hfz17 hcz18 hfz18; clear BKgs; clear BKgt; clear HB; have NBgs_gn := n0_; clear n0_; have NBgn_gs := n1_; clear n1_; have NBgt_gn := n2_; clear n2_; have NBgn_gt := n3_; clear n3_; have GEgn := n4_; clear n4_; have BKgs := n5_; clear n5_; have BKgt := n6_; clear n6_; have HB := n7_; clear n7_; have BKgn := n8_; clear n8_; clear hb hbox hg; have hcz19 : v3.cell? ⟨gs, 0, none⟩ = some (.int .i64 s.q) := (blk_cell BKgs.out 0).trans rfl; have hfz19 := blk_frozen BKgs.out 0; have hcz20 : v3.cell? ⟨gs, 1, none⟩ = some (.int .i64 s.g) := (blk_cell BKgs.out 1).trans rfl; have hfz20 := blk_frozen BKgs.out 1; have hcz21 : v3.cell? ⟨gs, 2, none⟩ = some (.int .i64 s.l) := (blk_cell BKgs.out 2).trans rfl; have hfz21 := blk_frozen BKgs.out 2; have hcz22 : v3.cell? ⟨gs, 3, none⟩ = some (.int .i64 s.r) := (blk_cell BKgs.out 3).trans rfl; have hfz22 := blk_frozen BKgs.out 3; have hcz23 : v3.cell? ⟨gs, 4, none⟩ = some (.int .i64 s.t) := (blk_cell BKgs.out 4).trans rfl; have hfz23 := blk_frozen BKgs.out 4; have hcz24 : v3.cell? ⟨gs, 5, none⟩ = some (.int .i64 s.c) := (blk_cell BKgs.out 5).trans rfl; have hfz24 := blk_frozen BKgs.out 5))
    with_reducible refine (CS.out _ (Glob.below HG.out (by repeat (first | (with_reducible first | exact HB.out | apply below_alloc | apply pw_below_drewN | apply below_drew1 | refine below_set ?_ GEgs.out | refine below_set ?_ GEgt.out | refine below_set ?_ GEgn.out) | exact HB.out)))).mono ?_
    rintro e v4 ⟨rfl, hb⟩
    have n0_ := Aside0.mk (blk_below (g := gs) (o := .cells #[.int .i64 s.q, .int .i64 s.g, .int .i64 s.l, .int .i64 s.r, .int .i64 s.t, .int .i64 s.c] 43 (0, 0)) (by (with_reducible repeat (first | refine blk_drewN ?_ _ | refine blk_drew ?_ | refine blk_alloc ?_ _)); exact BKgs.out) hb)
    have n1_ := Aside0.mk (blk_below (g := gt) (o := .cells #[.int .i64 t.q, .int .i64 t.g, .int .i64 t.l, .int .i64 t.r, .int .i64 t.t, .int .i64 t.c] 43 (0, 0)) (by (with_reducible repeat (first | refine blk_drewN ?_ _ | refine blk_drew ?_ | refine blk_alloc ?_ _)); exact BKgt.out) hb)
    have n2_ := Aside0.mk (blk_below (g := gn) (o := .cells #[.int .u8 (n0.toNat : Int), .int .u8 (n1.toNat : Int), .int .u8 (y0.toNat : Int), .int .u8 (y1.toNat : Int), .int .u8 (y2.toNat : Int), .int .u8 (y3.toNat : Int)] 57 (0, 0)) (by (with_reducible repeat (first | refine blk_drewN ?_ _ | refine blk_drew ?_ | refine blk_alloc ?_ _)); exact BKgn.out) hb)
    have n3_ := Aside0.mk (below_step (by repeat (first | (with_reducible first | exact HB.out | apply below_alloc | apply pw_below_drewN | apply below_drew1 | refine below_set ?_ GEgs.out | refine below_set ?_ GEgt.out | refine below_set ?_ GEgn.out) | exact HB.out)) hb)
    clear hcz19 hfz19 hcz20 hfz20 hcz21 hfz21 hcz22 hfz22 hcz23 hfz23 hcz24 hfz24
    clear BKgs
    clear BKgt
    clear BKgn
    clear HB
    have BKgs := n0_; clear n0_
    have BKgt := n1_; clear n1_
    have BKgn := n2_; clear n2_
    have HB := n3_; clear n3_
    (try clear hb)
    have hcz25 : v4.cell? ⟨gt, 0, none⟩ = some (.int .i64 t.q) := (blk_cell BKgt.out 0).trans rfl
    have hfz25 := blk_frozen BKgt.out 0
    have hcz26 : v4.cell? ⟨gt, 1, none⟩ = some (.int .i64 t.g) := (blk_cell BKgt.out 1).trans rfl
    have hfz26 := blk_frozen BKgt.out 1
    have hcz27 : v4.cell? ⟨gt, 2, none⟩ = some (.int .i64 t.l) := (blk_cell BKgt.out 2).trans rfl
    have hfz27 := blk_frozen BKgt.out 2
    have hcz28 : v4.cell? ⟨gt, 3, none⟩ = some (.int .i64 t.r) := (blk_cell BKgt.out 3).trans rfl
    have hfz28 := blk_frozen BKgt.out 3
    have hcz29 : v4.cell? ⟨gt, 4, none⟩ = some (.int .i64 t.t) := (blk_cell BKgt.out 4).trans rfl
    have hfz29 := blk_frozen BKgt.out 4
    have hcz30 : v4.cell? ⟨gt, 5, none⟩ = some (.int .i64 t.c) := (blk_cell BKgt.out 5).trans rfl
    have hfz30 := blk_frozen BKgt.out 5
    go_wp2_with fail
    with_reducible refine (CT.out _ (Glob.below HG.out (by repeat (first | (with_reducible first | exact HB.out | apply below_alloc | apply pw_below_drewN | apply below_drew1 | refine below_set ?_ GEgs.out | refine below_set ?_ GEgt.out | refine below_set ?_ GEgn.out) | exact HB.out)))).mono ?_
    rintro e v5 ⟨rfl, hb⟩
    have n0_ := Aside0.mk (blk_below (g := gs) (o := .cells #[.int .i64 s.q, .int .i64 s.g, .int .i64 s.l, .int .i64 s.r, .int .i64 s.t, .int .i64 s.c] 43 (0, 0)) (by (with_reducible repeat (first | refine blk_drewN ?_ _ | refine blk_drew ?_ | refine blk_alloc ?_ _)); exact BKgs.out) hb)
    have n1_ := Aside0.mk (blk_below (g := gt) (o := .cells #[.int .i64 t.q, .int .i64 t.g, .int .i64 t.l, .int .i64 t.r, .int .i64 t.t, .int .i64 t.c] 43 (0, 0)) (by (with_reducible repeat (first | refine blk_drewN ?_ _ | refine blk_drew ?_ | refine blk_alloc ?_ _)); exact BKgt.out) hb)
    have n2_ := Aside0.mk (blk_below (g := gn) (o := .cells #[.int .u8 (n0.toNat : Int), .int .u8 (n1.toNat : Int), .int .u8 (y0.toNat : Int), .int .u8 (y1.toNat : Int), .int .u8 (y2.toNat : Int), .int .u8 (y3.toNat : Int)] 57 (0, 0)) (by (with_reducible repeat (first | refine blk_drewN ?_ _ | refine blk_drew ?_ | refine blk_alloc ?_ _)); exact BKgn.out) hb)
    have n3_ := Aside0.mk (below_step (by repeat (first | (with_reducible first | exact HB.out | apply below_alloc | apply pw_below_drewN | apply below_drew1 | refine below_set ?_ GEgs.out | refine below_set ?_ GEgt.out | refine below_set ?_ GEgn.out) | exact HB.out)) hb)
    clear hcz25 hfz25 hcz26 hfz26 hcz27 hfz27 hcz28 hfz28 hcz29 hfz29 hcz30 hfz30
    clear BKgs
    clear BKgt
    clear BKgn
    clear HB
    have BKgs := n0_; clear n0_
    have BKgt := n1_; clear n1_
    have BKgn := n2_; clear n2_
    have HB := n3_; clear n3_
    (try clear hb)
    go_wp2_with fail
    have kgs := BKgs.out; have kgt := BKgt.out; have kgn := BKgn.out; have kbel := HB.out
    clear HB BKgs BKgt BKgn CS CT
    clear zf1 zf2 zf3 zf4 zf5 zf6
    have kK : Below v5.heap.size v5 v5 := Below.refl _ _
    have HK := Lib.hid kbel; have HGs := Lib.hid kgs; have HGt := Lib.hid kgt; have HGn := Lib.hid kgn; clear kgs kgt kgn kbel
    go_loopw [11, 12] (fun v11 v12 w' => ∃ (i : Nat), i ≤ 4 ∧ v12 = .int .i64 (i : Int) ∧ w'.ownsRow v5.heap.size 5 1 v11 ((encL t).take (64 * i)).length (nums .u8 ((encL t).take (64 * i))) ∧ Below v5.heap.size v5 w') (fun _ v12 _ => 4 - (intOf v12).toNat)
    case atStart => exact ⟨0, by omega, rfl, Kd.own_of_R (Kd.R_nil (Kd.int .u8) _ _ _ (fun _ => True)), by repeat (first | (with_reducible first | exact kK | apply pw_below_drewN | apply below_drew1) | exact kK)⟩
    clear kK
    case round =>
      obtain ⟨i, hi, rfl, hown, hb⟩ := hrel
      have hgn := blk_below HGn.out hb
      by_cases hlt : i < 4
      · have hi4 : decide ((i : Int) < 4) = true := decide_eq_true (by omega)
        have hn0 := (blk_cell hgn 0).trans rfl
        have hbit := bit_cond n0.toNat i n0.toNat_lt hlt
        have hi1 : wrap64 ((i : Int) + 1) = ((i + 1 : Nat) : Int) := by unfold wrap64; omega
        have hz0 : i = 0 → n0.toNat / 2 ^ i % 2 = 1 := fun h => by rw [h, Nat.pow_zero, Nat.div_one]; have := Hw.out; omega
        have HZ := Lib.hid hz0; clear hz0
        have hw1 : wrap64 (64 * (i : Int)) = 64 * (i : Int) := by unfold wrap64; omega
        have hw2 : wrap64 (64 * (i : Int) + 64) = 64 * (i : Int) + 64 := by unfold wrap64; omega
        have hs1 : (64 * (i : Int) + 64 ≤ (A.size : Int)) = True := eq_true (by have := HSA.out; omega)
        have hs2 : (64 * (i : Int) + 64 ≤ (B.size : Int)) = True := eq_true (by have := HSB.out; omega)
        have hs3 : (0 ≤ 64 * (i : Int)) = True := eq_true (by omega)
        have hs4 : (0 ≤ 64 * (i : Int) + 64) = True := eq_true (by omega)
        have hs5 : (64 * (i : Int) ≤ 64 * (i : Int) + 64) = True := eq_true (by omega)
        by_cases hbi : n0.toNat / 2 ^ i % 2 = 1
        · rw [decide_eq_true hbi] at hbit
          have hF := HP.out B i hlt (Or.inr rfl) (fun h => HUW.out.symm)
          have HF := Lib.hid hF; have Hlt := Lib.hid hlt; have Hown := Lib.hid hown; have Hb := Lib.hid hb; clear hF hlt hi hbi hown hgn hb
          go_wp2_with ((with_reducible refine gate_builtin (b := .append) (xs := #[.tmp 74, .tmp 81]) rfl ?_); at_builtin; go_must (refine app_str v5.heap.size rfl (.tmp 74) (.tmp 81) rfl _ _ _ rfl rfl Hown.out Hb.out.size (by have h1 := HSA.out; have h2 := HSB.out; rw [ByteArray.size_extract, take_len _ _ (by have := Hlt.out; omega)]; have := Hlt.out; omega) ?_); go_must (intro v20 w20 ho20 hg20); go_must (have hb20 := Hb.out.grown hg20 Hb.out.size (own_base Hown.out)); clear hg20; go_must (have ho21 := own_more rfl ho20 HF.out); clear ho20)
          refine ⟨⟨i + 1, by have := Hlt.out; omega, by go_num, ho21, by repeat (first | (with_reducible first | exact hb20 | apply pw_below_drewN | apply below_drew1) | exact hb20)⟩, ?_⟩
          have := Hlt.out; rw [hi1]; simp only [intOf]; omega
        have hbi2 : ¬ n0.toNat / 2 ^ i % 2 = 1 := hbi
        · rw [decide_eq_false hbi2] at hbit
          have hF := HP.out A i hlt (Or.inl rfl) (fun h => (by have := HZ.out h; omega))
          have HF := Lib.hid hF; have Hlt := Lib.hid hlt; have Hown := Lib.hid hown; have Hb := Lib.hid hb; clear hF hlt hi hbi hown hgn hb
          go_wp2_with ((with_reducible refine gate_builtin (b := .append) (xs := #[.tmp 74, .tmp 81]) rfl ?_); at_builtin; go_must (refine app_str v5.heap.size rfl (.tmp 74) (.tmp 81) rfl _ _ _ rfl rfl Hown.out Hb.out.size (by have h1 := HSA.out; have h2 := HSB.out; rw [ByteArray.size_extract, take_len _ _ (by have := Hlt.out; omega)]; have := Hlt.out; omega) ?_); go_must (intro v20 w20 ho20 hg20); go_must (have hb20 := Hb.out.grown hg20 Hb.out.size (own_base Hown.out)); clear hg20; go_must (have ho21 := own_more rfl ho20 HF.out); clear ho20)
          refine ⟨⟨i + 1, by have := Hlt.out; omega, by go_num, ho21, by repeat (first | (with_reducible first | exact hb20 | apply pw_below_drewN | apply below_drew1) | exact hb20)⟩, ?_⟩
          have := Hlt.out; rw [hi1]; simp only [intOf]; omega
      · have hi4 : decide ((i : Int) < 4) = false := decide_eq_false (by omega)
        obtain rfl : i = 4 := by omega
        have hgs := blk_below HGs.out hb; have hgt := blk_below HGt.out hb
        obtain ⟨g, C, rfl, hgK, hrow⟩ := own_all HU.out hown
        have BKgs := Aside0.mk hgs; have BKgt := Aside0.mk hgt; have BKgn := Aside0.mk hgn
        have HB := Aside0.mk (below_step HK.out hb)
        have gnB := Nat.ne_of_lt (Nat.lt_of_lt_of_le (blk_lt HGn.out) hgK)
        have hwB : w.heap.size ≤ g := Nat.le_trans (below_size HK.out) hgK
        clear hgs hgt hgn hown hb hlt hi hgK hi4
        obtain ⟨L0, hL0⟩ : ∃ l, l = U.data.toList := ⟨_, rfl⟩
        have hL0n : L0.length = 256 := by rw [hL0, RowU.data_length]; exact HI.out.1
        obtain ⟨M0, hM0⟩ : ∃ l, l = L0.take 60 := ⟨_, rfl⟩
        obtain ⟨tl, htl⟩ : ∃ l, l = L0.drop 60 := ⟨_, rfl⟩
        have hL : L0 = M0 ++ tl := by rw [hM0, htl, List.take_append_drop]
        have hM0n : M0.length = 60 := by rw [hM0, List.length_take, hL0n]; rfl
        have htn : tl.length = 196 := by rw [htl, List.length_drop, hL0n]
        rw [← hL0, hL] at hrow
        have HL0 := Lib.hid (hL ▸ hL0 : M0 ++ tl = U.data.toList)
        have HM0n := Lib.hid hM0n; have Htn := Lib.hid htn
        have Hcv := Lib.hid (fun w1 (h : Row w1 g (M0 ++ tl)) => (conv_row (C := C) (n := 256) (by rw [List.length_append, hM0n, htn]) h).trans (by rw [show txt (M0 ++ tl) = U from str_ext (by rw [txt_data]; exact HL0.out)]))
        have Hpos := Lib.hid (show 0 < (M0 ++ tl).length by rw [List.length_append, hM0n]; omega)
        clear hL0 hL0n hM0 htl hL hM0n htn
        have hR := hrow; clear hrow
        have hc0 := bit_cond0 n0.toNat n0.toNat_lt
        rw [decide_eq_true Hw.out] at hc0
        have CD := Lib.hid fun W hG => dec_c U W hG
        rw [dec_pos HI.out] at CD; dsimp only at CD
        have hcz301 : wr.cell? ⟨gs, 0, none⟩ = some (.int .i64 s.q) := (blk_cell BKgs.out 0).trans rfl
        have hfz301 := blk_frozen BKgs.out 0
        have hcz302 : wr.cell? ⟨gs, 1, none⟩ = some (.int .i64 s.g) := (blk_cell BKgs.out 1).trans rfl
        have hfz302 := blk_frozen BKgs.out 1
        have hcz303 : wr.cell? ⟨gs, 2, none⟩ = some (.int .i64 s.l) := (blk_cell BKgs.out 2).trans rfl
        have hfz303 := blk_frozen BKgs.out 2
        have hcz304 : wr.cell? ⟨gs, 3, none⟩ = some (.int .i64 s.r) := (blk_cell BKgs.out 3).trans rfl
        have hfz304 := blk_frozen BKgs.out 3
        have hcz305 : wr.cell? ⟨gs, 4, none⟩ = some (.int .i64 s.t) := (blk_cell BKgs.out 4).trans rfl
        have hfz305 := blk_frozen BKgs.out 4
        have hcz306 : wr.cell? ⟨gs, 5, none⟩ = some (.int .i64 s.c) := (blk_cell BKgs.out 5).trans rfl
        have hfz306 := blk_frozen BKgs.out 5
        have hcz307 : wr.cell? ⟨gt, 0, none⟩ = some (.int .i64 t.q) := (blk_cell BKgt.out 0).trans rfl
        have hfz307 := blk_frozen BKgt.out 0
        have hcz308 : wr.cell? ⟨gt, 1, none⟩ = some (.int .i64 t.g) := (blk_cell BKgt.out 1).trans rfl
        have hfz308 := blk_frozen BKgt.out 1
        have hcz309 : wr.cell? ⟨gt, 2, none⟩ = some (.int .i64 t.l) := (blk_cell BKgt.out 2).trans rfl
        have hfz309 := blk_frozen BKgt.out 2
        have hcz310 : wr.cell? ⟨gt, 3, none⟩ = some (.int .i64 t.r) := (blk_cell BKgt.out 3).trans rfl
        have hfz310 := blk_frozen BKgt.out 3
        have hcz311 : wr.cell? ⟨gt, 4, none⟩ = some (.int .i64 t.t) := (blk_cell BKgt.out 4).trans rfl
        have hfz311 := blk_frozen BKgt.out 4
        have hcz312 : wr.cell? ⟨gt, 5, none⟩ = some (.int .i64 t.c) := (blk_cell BKgt.out 5).trans rfl
        have hfz312 := blk_frozen BKgt.out 5
        have hcz313 : wr.cell? ⟨gn, 0, none⟩ = some (.int .u8 (n0.toNat : Int)) := (blk_cell BKgn.out 0).trans rfl
        have hfz313 := blk_frozen BKgn.out 0
        have hcz314 : wr.cell? ⟨gn, 1, none⟩ = some (.int .u8 (n1.toNat : Int)) := (blk_cell BKgn.out 1).trans rfl
        have hfz314 := blk_frozen BKgn.out 1
        have hcz315 : wr.cell? ⟨gn, 2, none⟩ = some (.int .u8 (y0.toNat : Int)) := (blk_cell BKgn.out 2).trans rfl
        have hfz315 := blk_frozen BKgn.out 2
        have hcz316 : wr.cell? ⟨gn, 3, none⟩ = some (.int .u8 (y1.toNat : Int)) := (blk_cell BKgn.out 3).trans rfl
        have hfz316 := blk_frozen BKgn.out 3
        have hcz317 : wr.cell? ⟨gn, 4, none⟩ = some (.int .u8 (y2.toNat : Int)) := (blk_cell BKgn.out 4).trans rfl
        have hfz317 := blk_frozen BKgn.out 4
        have hcz318 : wr.cell? ⟨gn, 5, none⟩ = some (.int .u8 (y3.toNat : Int)) := (blk_cell BKgn.out 5).trans rfl
        have hfz318 := blk_frozen BKgn.out 5
        go_wp2_with (first | ((with_reducible refine gate_dst (N := 14) rfl ?_); (try (refine gate_guard (by rfl) ?_; dsimp only)); refine box_event ?hg (N := 14) ?hd (cs := #[.int .i64 0, .int .i64 0, .int .i64 0, .int .i64 0, .int .i64 0, .int .i64 0]) (t := 43) ?hr ?_; (case hd => rfl); (case hg => rfl); (case hr => first | (go_simp; done) | (go_simp; rfl)); intro gw hg v30 hbox hb; have n0_ := Aside0.mk (by rw [hg]; exact Nat.ne_of_lt (blk_lt (g := gs) (o := .cells #[.int .i64 s.q, .int .i64 s.g, .int .i64 s.l, .int .i64 s.r, .int .i64 s.t, .int .i64 s.c] 43 (0, 0)) (by (with_reducible repeat (first | refine blk_drewN ?_ _ | refine blk_drew ?_ | refine blk_alloc ?_ _)); exact BKgs.out)) : gs ≠ gw); have n1_ := Aside0.mk (by rw [hg]; exact Nat.ne_of_gt (blk_lt (g := gs) (o := .cells #[.int .i64 s.q, .int .i64 s.g, .int .i64 s.l, .int .i64 s.r, .int .i64 s.t, .int .i64 s.c] 43 (0, 0)) (by (with_reducible repeat (first | refine blk_drewN ?_ _ | refine blk_drew ?_ | refine blk_alloc ?_ _)); exact BKgs.out)) : gw ≠ gs); have n2_ := Aside0.mk (by rw [hg]; exact Nat.ne_of_lt (blk_lt (g := gt) (o := .cells #[.int .i64 t.q, .int .i64 t.g, .int .i64 t.l, .int .i64 t.r, .int .i64 t.t, .int .i64 t.c] 43 (0, 0)) (by (with_reducible repeat (first | refine blk_drewN ?_ _ | refine blk_drew ?_ | refine blk_alloc ?_ _)); exact BKgt.out)) : gt ≠ gw); have n3_ := Aside0.mk (by rw [hg]; exact Nat.ne_of_gt (blk_lt (g := gt) (o := .cells #[.int .i64 t.q, .int .i64 t.g, .int .i64 t.l, .int .i64 t.r, .int .i64 t.t, .int .i64 t.c] 43 (0, 0)) (by (with_reducible repeat (first | refine blk_drewN ?_ _ | refine blk_drew ?_ | refine blk_alloc ?_ _)); exact BKgt.out)) : gw ≠ gt); have n4_ := Aside0.mk (by rw [hg]; exact Nat.ne_of_lt (blk_lt (g := gn) (o := .cells #[.int .u8 (n0.toNat : Int), .int .u8 (n1.toNat : Int), .int .u8 (y0.toNat : Int), .int .u8 (y1.toNat : Int), .int .u8 (y2.toNat : Int), .int .u8 (y3.toNat : Int)] 57 (0, 0)) (by (with_reducible repeat (first | refine blk_drewN ?_ _ | refine blk_drew ?_ | refine blk_alloc ?_ _)); exact BKgn.out)) : gn ≠ gw); have n5_ := Aside0.mk (by rw [hg]; exact Nat.ne_of_gt (blk_lt (g := gn) (o := .cells #[.int .u8 (n0.toNat : Int), .int .u8 (n1.toNat : Int), .int .u8 (y0.toNat : Int), .int .u8 (y1.toNat : Int), .int .u8 (y2.toNat : Int), .int .u8 (y3.toNat : Int)] 57 (0, 0)) (by (with_reducible repeat (first | refine blk_drewN ?_ _ | refine blk_drew ?_ | refine blk_alloc ?_ _)); exact BKgn.out)) : gw ≠ gn); have n6_ := Aside0.mk (by rw [hg]; exact below_size (by repeat (first | (with_reducible first | exact HB.out | apply below_alloc | apply pw_below_drewN | apply below_drew1 | refine below_set ?_ GEgs.out | refine below_set ?_ GEgt.out | refine below_set ?_ GEgn.out) | exact HB.out)) : w.heap.size ≤ gw); have n7_ := Aside0.mk (blk_below (g := gs) (o := .cells #[.int .i64 s.q, .int .i64 s.g, .int .i64 s.l, .int .i64 s.r, .int .i64 s.t, .int .i64 s.c] 43 (0, 0)) (by (with_reducible repeat (first | refine blk_drewN ?_ _ | refine blk_drew ?_ | refine blk_alloc ?_ _)); exact BKgs.out) hb); have n8_ := Aside0.mk (blk_below (g := gt) (o := .cells #[.int .i64 t.q, .int .i64 t.g, .int .i64 t.l, .int .i64 t.r, .int .i64 t.t, .int .i64 t.c] 43 (0, 0)) (by (with_reducible repeat (first | refine blk_drewN ?_ _ | refine blk_drew ?_ | refine blk_alloc ?_ _)); exact BKgt.out) hb); have n9_ := Aside0.mk (blk_below (g := gn) (o := .cells #[.int .u8 (n0.toNat : Int), .int .u8 (n1.toNat : Int), .int .u8 (y0.toNat : Int), .int .u8 (y1.toNat : Int), .int .u8 (y2.toNat : Int), .int .u8 (y3.toNat : Int)] 57 (0, 0)) (by (with_reducible repeat (first | refine blk_drewN ?_ _ | refine blk_drew ?_ | refine blk_alloc ?_ _)); exact BKgn.out) hb); have n10_ := Aside0.mk (below_step (by repeat (first | (with_reducible first | exact HB.out | apply below_alloc | apply pw_below_drewN | apply below_drew1 | refine below_set ?_ GEgs.out | refine below_set ?_ GEgt.out | refine below_set ?_ GEgn.out) | exact HB.out)) hb); have n11_ := Aside0.mk hbox; clear hcz301 hfz301 hcz302 hfz302 hcz303 hfz303 hcz304 hfz304 hcz305 hfz305 hcz306 hfz306 hcz307 hfz307 hcz308 hfz308 hcz309 hfz309 hcz310 hfz310 hcz311 hfz311 hcz312 hfz312 hcz313 hfz313 hcz314 hfz314 hcz315 hfz315 hcz316 hfz316 hcz317 hfz317 hcz318 hfz318; clear BKgs; clear BKgt; clear BKgn; clear HB; have NBgs_gw := n0_; clear n0_; have NBgw_gs := n1_; clear n1_; have NBgt_gw := n2_; clear n2_; have NBgw_gt := n3_; clear n3_; have NBgn_gw := n4_; clear n4_; have NBgw_gn := n5_; clear n5_; have GEgw := n6_; clear n6_; have BKgs := n7_; clear n7_; have BKgt := n8_; clear n8_; have BKgn := n9_; clear n9_; have HB := n10_; clear n10_; have BKgw := n11_; clear n11_; have hgB_gw := Nat.ne_of_lt (hR.lt Hpos.out); rw [← hg] at hgB_gw; have hR2_ := hR.below Hpos.out hb; clear hR; have hR := hR2_; clear hR2_; clear hb hbox hg; have hcz319 : v30.cell? ⟨gs, 0, none⟩ = some (.int .i64 s.q) := (blk_cell BKgs.out 0).trans rfl; have hfz319 := blk_frozen BKgs.out 0; have hcz320 : v30.cell? ⟨gs, 1, none⟩ = some (.int .i64 s.g) := (blk_cell BKgs.out 1).trans rfl; have hfz320 := blk_frozen BKgs.out 1; have hcz321 : v30.cell? ⟨gs, 2, none⟩ = some (.int .i64 s.l) := (blk_cell BKgs.out 2).trans rfl; have hfz321 := blk_frozen BKgs.out 2; have hcz322 : v30.cell? ⟨gs, 3, none⟩ = some (.int .i64 s.r) := (blk_cell BKgs.out 3).trans rfl; have hfz322 := blk_frozen BKgs.out 3; have hcz323 : v30.cell? ⟨gs, 4, none⟩ = some (.int .i64 s.t) := (blk_cell BKgs.out 4).trans rfl; have hfz323 := blk_frozen BKgs.out 4; have hcz324 : v30.cell? ⟨gs, 5, none⟩ = some (.int .i64 s.c) := (blk_cell BKgs.out 5).trans rfl; have hfz324 := blk_frozen BKgs.out 5; have hcz325 : v30.cell? ⟨gt, 0, none⟩ = some (.int .i64 t.q) := (blk_cell BKgt.out 0).trans rfl; have hfz325 := blk_frozen BKgt.out 0; have hcz326 : v30.cell? ⟨gt, 1, none⟩ = some (.int .i64 t.g) := (blk_cell BKgt.out 1).trans rfl; have hfz326 := blk_frozen BKgt.out 1; have hcz327 : v30.cell? ⟨gt, 2, none⟩ = some (.int .i64 t.l) := (blk_cell BKgt.out 2).trans rfl; have hfz327 := blk_frozen BKgt.out 2; have hcz328 : v30.cell? ⟨gt, 3, none⟩ = some (.int .i64 t.r) := (blk_cell BKgt.out 3).trans rfl; have hfz328 := blk_frozen BKgt.out 3; have hcz329 : v30.cell? ⟨gt, 4, none⟩ = some (.int .i64 t.t) := (blk_cell BKgt.out 4).trans rfl; have hfz329 := blk_frozen BKgt.out 4; have hcz330 : v30.cell? ⟨gt, 5, none⟩ = some (.int .i64 t.c) := (blk_cell BKgt.out 5).trans rfl; have hfz330 := blk_frozen BKgt.out 5; have hcz331 : v30.cell? ⟨gn, 0, none⟩ = some (.int .u8 (n0.toNat : Int)) := (blk_cell BKgn.out 0).trans rfl; have hfz331 := blk_frozen BKgn.out 0; have hcz332 : v30.cell? ⟨gn, 1, none⟩ = some (.int .u8 (n1.toNat : Int)) := (blk_cell BKgn.out 1).trans rfl; have hfz332 := blk_frozen BKgn.out 1; have hcz333 : v30.cell? ⟨gn, 2, none⟩ = some (.int .u8 (y0.toNat : Int)) := (blk_cell BKgn.out 2).trans rfl; have hfz333 := blk_frozen BKgn.out 2; have hcz334 : v30.cell? ⟨gn, 3, none⟩ = some (.int .u8 (y1.toNat : Int)) := (blk_cell BKgn.out 3).trans rfl; have hfz334 := blk_frozen BKgn.out 3; have hcz335 : v30.cell? ⟨gn, 4, none⟩ = some (.int .u8 (y2.toNat : Int)) := (blk_cell BKgn.out 4).trans rfl; have hfz335 := blk_frozen BKgn.out 4; have hcz336 : v30.cell? ⟨gn, 5, none⟩ = some (.int .u8 (y3.toNat : Int)) := (blk_cell BKgn.out 5).trans rfl; have hfz336 := blk_frozen BKgn.out 5; have hcz337 : v30.cell? ⟨gw, 0, none⟩ = some (.int .i64 0) := (blk_cell BKgw.out 0).trans rfl; have hfz337 := blk_frozen BKgw.out 0; have hcz338 : v30.cell? ⟨gw, 1, none⟩ = some (.int .i64 0) := (blk_cell BKgw.out 1).trans rfl; have hfz338 := blk_frozen BKgw.out 1; have hcz339 : v30.cell? ⟨gw, 2, none⟩ = some (.int .i64 0) := (blk_cell BKgw.out 2).trans rfl; have hfz339 := blk_frozen BKgw.out 2; have hcz340 : v30.cell? ⟨gw, 3, none⟩ = some (.int .i64 0) := (blk_cell BKgw.out 3).trans rfl; have hfz340 := blk_frozen BKgw.out 3; have hcz341 : v30.cell? ⟨gw, 4, none⟩ = some (.int .i64 0) := (blk_cell BKgw.out 4).trans rfl; have hfz341 := blk_frozen BKgw.out 4; have hcz342 : v30.cell? ⟨gw, 5, none⟩ = some (.int .i64 0) := (blk_cell BKgw.out 5).trans rfl; have hfz342 := blk_frozen BKgw.out 5) | ((with_reducible refine gate_store (t := 43) (p := 14) rfl ?_); refine store_event (t := 43) (p := 14) (v := ?vo_v31) (w1 := ((((((v30.setCell ⟨gw, 0, none⟩ (.int .i64 s.q)).setCell ⟨gw, 1, none⟩ (.int .i64 s.g)).setCell ⟨gw, 2, none⟩ (.int .i64 s.l)).setCell ⟨gw, 3, none⟩ (.int .i64 s.r)).setCell ⟨gw, 4, none⟩ (.int .i64 s.t)).setCell ⟨gw, 5, none⟩ (.int .i64 s.c))) ?hg ?ho ?hn ?hr ?_; (case ho => rfl); (case hg => rfl); (case hn => rfl); (case hr => first | (go_simp; done) | (go_simp; rfl)); intro v31 hw; have n0_ := Aside0.mk (by rw [hw]; (with_reducible repeat (first | refine blk_drewN ?_ _ | refine blk_drew ?_ | refine blk_alloc ?_ _)); refine blk_far ?_ NBgs_gw.out _; (with_reducible repeat (first | refine blk_drewN ?_ _ | refine blk_drew ?_ | refine blk_alloc ?_ _)); refine blk_far ?_ NBgs_gw.out _; (with_reducible repeat (first | refine blk_drewN ?_ _ | refine blk_drew ?_ | refine blk_alloc ?_ _)); refine blk_far ?_ NBgs_gw.out _; (with_reducible repeat (first | refine blk_drewN ?_ _ | refine blk_drew ?_ | refine blk_alloc ?_ _)); refine blk_far ?_ NBgs_gw.out _; (with_reducible repeat (first | refine blk_drewN ?_ _ | refine blk_drew ?_ | refine blk_alloc ?_ _)); refine blk_far ?_ NBgs_gw.out _; (with_reducible repeat (first | refine blk_drewN ?_ _ | refine blk_drew ?_ | refine blk_alloc ?_ _)); refine blk_far ?_ NBgs_gw.out _; (with_reducible repeat (first | refine blk_drewN ?_ _ | refine blk_drew ?_ | refine blk_alloc ?_ _)); exact BKgs.out : v31.heap[gs]? = some (.cells #[.int .i64 s.q, .int .i64 s.g, .int .i64 s.l, .int .i64 s.r, .int .i64 s.t, .int .i64 s.c] 43 (0, 0))); have n1_ := Aside0.mk (by rw [hw]; (with_reducible repeat (first | refine blk_drewN ?_ _ | refine blk_drew ?_ | refine blk_alloc ?_ _)); refine blk_far ?_ NBgt_gw.out _; (with_reducible repeat (first | refine blk_drewN ?_ _ | refine blk_drew ?_ | refine blk_alloc ?_ _)); refine blk_far ?_ NBgt_gw.out _; (with_reducible repeat (first | refine blk_drewN ?_ _ | refine blk_drew ?_ | refine blk_alloc ?_ _)); refine blk_far ?_ NBgt_gw.out _; (with_reducible repeat (first | refine blk_drewN ?_ _ | refine blk_drew ?_ | refine blk_alloc ?_ _)); refine blk_far ?_ NBgt_gw.out _; (with_reducible repeat (first | refine blk_drewN ?_ _ | refine blk_drew ?_ | refine blk_alloc ?_ _)); refine blk_far ?_ NBgt_gw.out _; (with_reducible repeat (first | refine blk_drewN ?_ _ | refine blk_drew ?_ | refine blk_alloc ?_ _)); refine blk_far ?_ NBgt_gw.out _; (with_reducible repeat (first | refine blk_drewN ?_ _ | refine blk_drew ?_ | refine blk_alloc ?_ _)); exact BKgt.out : v31.heap[gt]? = some (.cells #[.int .i64 t.q, .int .i64 t.g, .int .i64 t.l, .int .i64 t.r, .int .i64 t.t, .int .i64 t.c] 43 (0, 0))); have n2_ := Aside0.mk (by rw [hw]; (with_reducible repeat (first | refine blk_drewN ?_ _ | refine blk_drew ?_ | refine blk_alloc ?_ _)); refine blk_far ?_ NBgn_gw.out _; (with_reducible repeat (first | refine blk_drewN ?_ _ | refine blk_drew ?_ | refine blk_alloc ?_ _)); refine blk_far ?_ NBgn_gw.out _; (with_reducible repeat (first | refine blk_drewN ?_ _ | refine blk_drew ?_ | refine blk_alloc ?_ _)); refine blk_far ?_ NBgn_gw.out _; (with_reducible repeat (first | refine blk_drewN ?_ _ | refine blk_drew ?_ | refine blk_alloc ?_ _)); refine blk_far ?_ NBgn_gw.out _; (with_reducible repeat (first | refine blk_drewN ?_ _ | refine blk_drew ?_ | refine blk_alloc ?_ _)); refine blk_far ?_ NBgn_gw.out _; (with_reducible repeat (first | refine blk_drewN ?_ _ | refine blk_drew ?_ | refine blk_alloc ?_ _)); refine blk_far ?_ NBgn_gw.out _; (with_reducible repeat (first | refine blk_drewN ?_ _ | refine blk_drew ?_ | refine blk_alloc ?_ _)); exact BKgn.out : v31.heap[gn]? = some (.cells #[.int .u8 (n0.toNat : Int), .int .u8 (n1.toNat : Int), .int .u8 (y0.toNat : Int), .int .u8 (y1.toNat : Int), .int .u8 (y2.toNat : Int), .int .u8 (y3.toNat : Int)] 57 (0, 0))); have n3_ := Aside0.mk (by rw [hw]; (with_reducible repeat (first | refine blk_drewN ?_ _ | refine blk_drew ?_ | refine blk_alloc ?_ _)); refine blk_put (cs := #[.int .i64 s.q, .int .i64 s.g, .int .i64 s.l, .int .i64 s.r, .int .i64 s.t, .int .i64 0]) ?_ 5 _ rfl; (with_reducible repeat (first | refine blk_drewN ?_ _ | refine blk_drew ?_ | refine blk_alloc ?_ _)); refine blk_put (cs := #[.int .i64 s.q, .int .i64 s.g, .int .i64 s.l, .int .i64 s.r, .int .i64 0, .int .i64 0]) ?_ 4 _ rfl; (with_reducible repeat (first | refine blk_drewN ?_ _ | refine blk_drew ?_ | refine blk_alloc ?_ _)); refine blk_put (cs := #[.int .i64 s.q, .int .i64 s.g, .int .i64 s.l, .int .i64 0, .int .i64 0, .int .i64 0]) ?_ 3 _ rfl; (with_reducible repeat (first | refine blk_drewN ?_ _ | refine blk_drew ?_ | refine blk_alloc ?_ _)); refine blk_put (cs := #[.int .i64 s.q, .int .i64 s.g, .int .i64 0, .int .i64 0, .int .i64 0, .int .i64 0]) ?_ 2 _ rfl; (with_reducible repeat (first | refine blk_drewN ?_ _ | refine blk_drew ?_ | refine blk_alloc ?_ _)); refine blk_put (cs := #[.int .i64 s.q, .int .i64 0, .int .i64 0, .int .i64 0, .int .i64 0, .int .i64 0]) ?_ 1 _ rfl; (with_reducible repeat (first | refine blk_drewN ?_ _ | refine blk_drew ?_ | refine blk_alloc ?_ _)); refine blk_put (cs := #[.int .i64 0, .int .i64 0, .int .i64 0, .int .i64 0, .int .i64 0, .int .i64 0]) ?_ 0 _ rfl; (with_reducible repeat (first | refine blk_drewN ?_ _ | refine blk_drew ?_ | refine blk_alloc ?_ _)); exact BKgw.out : v31.heap[gw]? = some (.cells #[.int .i64 s.q, .int .i64 s.g, .int .i64 s.l, .int .i64 s.r, .int .i64 s.t, .int .i64 s.c] 43 (0, 0))); have n4_ := Aside0.mk (by rw [hw]; repeat (first | (with_reducible first | exact HB.out | apply below_alloc | apply pw_below_drewN | apply below_drew1 | refine below_set ?_ GEgs.out | refine below_set ?_ GEgt.out | refine below_set ?_ GEgn.out | refine below_set ?_ GEgw.out) | exact HB.out) : Below w.heap.size w v31); clear hcz319 hfz319 hcz320 hfz320 hcz321 hfz321 hcz322 hfz322 hcz323 hfz323 hcz324 hfz324 hcz325 hfz325 hcz326 hfz326 hcz327 hfz327 hcz328 hfz328 hcz329 hfz329 hcz330 hfz330 hcz331 hfz331 hcz332 hfz332 hcz333 hfz333 hcz334 hfz334 hcz335 hfz335 hcz336 hfz336 hcz337 hfz337 hcz338 hfz338 hcz339 hfz339 hcz340 hfz340 hcz341 hfz341 hcz342 hfz342; clear BKgs; clear BKgt; clear BKgn; clear BKgw; clear HB; have BKgs := n0_; clear n0_; have BKgt := n1_; clear n1_; have BKgn := n2_; clear n2_; have BKgw := n3_; clear n3_; have HB := n4_; clear n4_; have hR2_ : Row v31 g (M0 ++ tl) := (by rw [hw]; exact ((((((hR.far hgB_gw (p := ⟨gw, 0, none⟩) _).far hgB_gw (p := ⟨gw, 1, none⟩) _).far hgB_gw (p := ⟨gw, 2, none⟩) _).far hgB_gw (p := ⟨gw, 3, none⟩) _).far hgB_gw (p := ⟨gw, 4, none⟩) _).far hgB_gw (p := ⟨gw, 5, none⟩) _)); clear hR; have hR := hR2_; clear hR2_; clear hw; have hcz343 : v31.cell? ⟨gt, 0, none⟩ = some (.int .i64 t.q) := (blk_cell BKgt.out 0).trans rfl; have hfz343 := blk_frozen BKgt.out 0; have hcz344 : v31.cell? ⟨gt, 1, none⟩ = some (.int .i64 t.g) := (blk_cell BKgt.out 1).trans rfl; have hfz344 := blk_frozen BKgt.out 1; have hcz345 : v31.cell? ⟨gt, 2, none⟩ = some (.int .i64 t.l) := (blk_cell BKgt.out 2).trans rfl; have hfz345 := blk_frozen BKgt.out 2; have hcz346 : v31.cell? ⟨gt, 3, none⟩ = some (.int .i64 t.r) := (blk_cell BKgt.out 3).trans rfl; have hfz346 := blk_frozen BKgt.out 3; have hcz347 : v31.cell? ⟨gt, 4, none⟩ = some (.int .i64 t.t) := (blk_cell BKgt.out 4).trans rfl; have hfz347 := blk_frozen BKgt.out 4; have hcz348 : v31.cell? ⟨gt, 5, none⟩ = some (.int .i64 t.c) := (blk_cell BKgt.out 5).trans rfl; have hfz348 := blk_frozen BKgt.out 5; have hcz349 : v31.cell? ⟨gn, 0, none⟩ = some (.int .u8 (n0.toNat : Int)) := (blk_cell BKgn.out 0).trans rfl; have hfz349 := blk_frozen BKgn.out 0; have hcz350 : v31.cell? ⟨gn, 1, none⟩ = some (.int .u8 (n1.toNat : Int)) := (blk_cell BKgn.out 1).trans rfl; have hfz350 := blk_frozen BKgn.out 1; have hcz351 : v31.cell? ⟨gn, 2, none⟩ = some (.int .u8 (y0.toNat : Int)) := (blk_cell BKgn.out 2).trans rfl; have hfz351 := blk_frozen BKgn.out 2; have hcz352 : v31.cell? ⟨gn, 3, none⟩ = some (.int .u8 (y1.toNat : Int)) := (blk_cell BKgn.out 3).trans rfl; have hfz352 := blk_frozen BKgn.out 3; have hcz353 : v31.cell? ⟨gn, 4, none⟩ = some (.int .u8 (y2.toNat : Int)) := (blk_cell BKgn.out 4).trans rfl; have hfz353 := blk_frozen BKgn.out 4; have hcz354 : v31.cell? ⟨gn, 5, none⟩ = some (.int .u8 (y3.toNat : Int)) := (blk_cell BKgn.out 5).trans rfl; have hfz354 := blk_frozen BKgn.out 5; have hcz355 : v31.cell? ⟨gw, 0, none⟩ = some (.int .i64 s.q) := (blk_cell BKgw.out 0).trans rfl; have hfz355 := blk_frozen BKgw.out 0; have hcz356 : v31.cell? ⟨gw, 1, none⟩ = some (.int .i64 s.g) := (blk_cell BKgw.out 1).trans rfl; have hfz356 := blk_frozen BKgw.out 1; have hcz357 : v31.cell? ⟨gw, 2, none⟩ = some (.int .i64 s.l) := (blk_cell BKgw.out 2).trans rfl; have hfz357 := blk_frozen BKgw.out 2; have hcz358 : v31.cell? ⟨gw, 3, none⟩ = some (.int .i64 s.r) := (blk_cell BKgw.out 3).trans rfl; have hfz358 := blk_frozen BKgw.out 3; have hcz359 : v31.cell? ⟨gw, 4, none⟩ = some (.int .i64 s.t) := (blk_cell BKgw.out 4).trans rfl; have hfz359 := blk_frozen BKgw.out 4; have hcz360 : v31.cell? ⟨gw, 5, none⟩ = some (.int .i64 s.c) := (blk_cell BKgw.out 5).trans rfl; have hfz360 := blk_frozen BKgw.out 5) | ((with_reducible refine gate_store (t := 43) (p := 14) rfl ?_); refine store_event (t := 43) (p := 14) (v := ?vo_v32) (w1 := ((((((v31.setCell ⟨gw, 0, none⟩ (.int .i64 t.q)).setCell ⟨gw, 1, none⟩ (.int .i64 t.g)).setCell ⟨gw, 2, none⟩ (.int .i64 t.l)).setCell ⟨gw, 3, none⟩ (.int .i64 t.r)).setCell ⟨gw, 4, none⟩ (.int .i64 t.t)).setCell ⟨gw, 5, none⟩ (.int .i64 t.c))) ?hg ?ho ?hn ?hr ?_; (case ho => rfl); (case hg => rfl); (case hn => rfl); (case hr => first | (go_simp; done) | (go_simp; rfl)); intro v32 hw; have n0_ := Aside0.mk (by rw [hw]; (with_reducible repeat (first | refine blk_drewN ?_ _ | refine blk_drew ?_ | refine blk_alloc ?_ _)); refine blk_far ?_ NBgs_gw.out _; (with_reducible repeat (first | refine blk_drewN ?_ _ | refine blk_drew ?_ | refine blk_alloc ?_ _)); refine blk_far ?_ NBgs_gw.out _; (with_reducible repeat (first | refine blk_drewN ?_ _ | refine blk_drew ?_ | refine blk_alloc ?_ _)); refine blk_far ?_ NBgs_gw.out _; (with_reducible repeat (first | refine blk_drewN ?_ _ | refine blk_drew ?_ | refine blk_alloc ?_ _)); refine blk_far ?_ NBgs_gw.out _; (with_reducible repeat (first | refine blk_drewN ?_ _ | refine blk_drew ?_ | refine blk_alloc ?_ _)); refine blk_far ?_ NBgs_gw.out _; (with_reducible repeat (first | refine blk_drewN ?_ _ | refine blk_drew ?_ | refine blk_alloc ?_ _)); refine blk_far ?_ NBgs_gw.out _; (with_reducible repeat (first | refine blk_drewN ?_ _ | refine blk_drew ?_ | refine blk_alloc ?_ _)); exact BKgs.out : v32.heap[gs]? = some (.cells #[.int .i64 s.q, .int .i64 s.g, .int .i64 s.l, .int .i64 s.r, .int .i64 s.t, .int .i64 s.c] 43 (0, 0))); have n1_ := Aside0.mk (by rw [hw]; (with_reducible repeat (first | refine blk_drewN ?_ _ | refine blk_drew ?_ | refine blk_alloc ?_ _)); refine blk_far ?_ NBgt_gw.out _; (with_reducible repeat (first | refine blk_drewN ?_ _ | refine blk_drew ?_ | refine blk_alloc ?_ _)); refine blk_far ?_ NBgt_gw.out _; (with_reducible repeat (first | refine blk_drewN ?_ _ | refine blk_drew ?_ | refine blk_alloc ?_ _)); refine blk_far ?_ NBgt_gw.out _; (with_reducible repeat (first | refine blk_drewN ?_ _ | refine blk_drew ?_ | refine blk_alloc ?_ _)); refine blk_far ?_ NBgt_gw.out _; (with_reducible repeat (first | refine blk_drewN ?_ _ | refine blk_drew ?_ | refine blk_alloc ?_ _)); refine blk_far ?_ NBgt_gw.out _; (with_reducible repeat (first | refine blk_drewN ?_ _ | refine blk_drew ?_ | refine blk_alloc ?_ _)); refine blk_far ?_ NBgt_gw.out _; (with_reducible repeat (first | refine blk_drewN ?_ _ | refine blk_drew ?_ | refine blk_alloc ?_ _)); exact BKgt.out : v32.heap[gt]? = some (.cells #[.int .i64 t.q, .int .i64 t.g, .int .i64 t.l, .int .i64 t.r, .int .i64 t.t, .int .i64 t.c] 43 (0, 0))); have n2_ := Aside0.mk (by rw [hw]; (with_reducible repeat (first | refine blk_drewN ?_ _ | refine blk_drew ?_ | refine blk_alloc ?_ _)); refine blk_far ?_ NBgn_gw.out _; (with_reducible repeat (first | refine blk_drewN ?_ _ | refine blk_drew ?_ | refine blk_alloc ?_ _)); refine blk_far ?_ NBgn_gw.out _; (with_reducible repeat (first | refine blk_drewN ?_ _ | refine blk_drew ?_ | refine blk_alloc ?_ _)); refine blk_far ?_ NBgn_gw.out _; (with_reducible repeat (first | refine blk_drewN ?_ _ | refine blk_drew ?_ | refine blk_alloc ?_ _)); refine blk_far ?_ NBgn_gw.out _; (with_reducible repeat (first | refine blk_drewN ?_ _ | refine blk_drew ?_ | refine blk_alloc ?_ _)); refine blk_far ?_ NBgn_gw.out _; (with_reducible repeat (first | refine blk_drewN ?_ _ | refine blk_drew ?_ | refine blk_alloc ?_ _)); refine blk_far ?_ NBgn_gw.out _; (with_reducible repeat (first | refine blk_drewN ?_ _ | refine blk_drew ?_ | refine blk_alloc ?_ _)); exact BKgn.out : v32.heap[gn]? = some (.cells #[.int .u8 (n0.toNat : Int), .int .u8 (n1.toNat : Int), .int .u8 (y0.toNat : Int), .int .u8 (y1.toNat : Int), .int .u8 (y2.toNat : Int), .int .u8 (y3.toNat : Int)] 57 (0, 0))); have n3_ := Aside0.mk (by rw [hw]; (with_reducible repeat (first | refine blk_drewN ?_ _ | refine blk_drew ?_ | refine blk_alloc ?_ _)); refine blk_put (cs := #[.int .i64 t.q, .int .i64 t.g, .int .i64 t.l, .int .i64 t.r, .int .i64 t.t, .int .i64 s.c]) ?_ 5 _ rfl; (with_reducible repeat (first | refine blk_drewN ?_ _ | refine blk_drew ?_ | refine blk_alloc ?_ _)); refine blk_put (cs := #[.int .i64 t.q, .int .i64 t.g, .int .i64 t.l, .int .i64 t.r, .int .i64 s.t, .int .i64 s.c]) ?_ 4 _ rfl; (with_reducible repeat (first | refine blk_drewN ?_ _ | refine blk_drew ?_ | refine blk_alloc ?_ _)); refine blk_put (cs := #[.int .i64 t.q, .int .i64 t.g, .int .i64 t.l, .int .i64 s.r, .int .i64 s.t, .int .i64 s.c]) ?_ 3 _ rfl; (with_reducible repeat (first | refine blk_drewN ?_ _ | refine blk_drew ?_ | refine blk_alloc ?_ _)); refine blk_put (cs := #[.int .i64 t.q, .int .i64 t.g, .int .i64 s.l, .int .i64 s.r, .int .i64 s.t, .int .i64 s.c]) ?_ 2 _ rfl; (with_reducible repeat (first | refine blk_drewN ?_ _ | refine blk_drew ?_ | refine blk_alloc ?_ _)); refine blk_put (cs := #[.int .i64 t.q, .int .i64 s.g, .int .i64 s.l, .int .i64 s.r, .int .i64 s.t, .int .i64 s.c]) ?_ 1 _ rfl; (with_reducible repeat (first | refine blk_drewN ?_ _ | refine blk_drew ?_ | refine blk_alloc ?_ _)); refine blk_put (cs := #[.int .i64 s.q, .int .i64 s.g, .int .i64 s.l, .int .i64 s.r, .int .i64 s.t, .int .i64 s.c]) ?_ 0 _ rfl; (with_reducible repeat (first | refine blk_drewN ?_ _ | refine blk_drew ?_ | refine blk_alloc ?_ _)); exact BKgw.out : v32.heap[gw]? = some (.cells #[.int .i64 t.q, .int .i64 t.g, .int .i64 t.l, .int .i64 t.r, .int .i64 t.t, .int .i64 t.c] 43 (0, 0))); have n4_ := Aside0.mk (by rw [hw]; repeat (first | (with_reducible first | exact HB.out | apply below_alloc | apply pw_below_drewN | apply below_drew1 | refine below_set ?_ GEgs.out | refine below_set ?_ GEgt.out | refine below_set ?_ GEgn.out | refine below_set ?_ GEgw.out) | exact HB.out) : Below w.heap.size w v32); clear hcz343 hfz343 hcz344 hfz344 hcz345 hfz345 hcz346 hfz346 hcz347 hfz347 hcz348 hfz348 hcz349 hfz349 hcz350 hfz350 hcz351 hfz351 hcz352 hfz352 hcz353 hfz353 hcz354 hfz354 hcz355 hfz355 hcz356 hfz356 hcz357 hfz357 hcz358 hfz358 hcz359 hfz359 hcz360 hfz360; clear BKgs; clear BKgt; clear BKgn; clear BKgw; clear HB; have BKgs := n0_; clear n0_; have BKgt := n1_; clear n1_; have BKgn := n2_; clear n2_; have BKgw := n3_; clear n3_; have HB := n4_; clear n4_; have hR2_ : Row v32 g (M0 ++ tl) := (by rw [hw]; exact ((((((hR.far hgB_gw (p := ⟨gw, 0, none⟩) _).far hgB_gw (p := ⟨gw, 1, none⟩) _).far hgB_gw (p := ⟨gw, 2, none⟩) _).far hgB_gw (p := ⟨gw, 3, none⟩) _).far hgB_gw (p := ⟨gw, 4, none⟩) _).far hgB_gw (p := ⟨gw, 5, none⟩) _)); clear hR; have hR := hR2_; clear hR2_; clear hw; have hcz361 : v32.cell? ⟨gn, 0, none⟩ = some (.int .u8 (n0.toNat : Int)) := (blk_cell BKgn.out 0).trans rfl; have hfz361 := blk_frozen BKgn.out 0; have hcz362 : v32.cell? ⟨gn, 1, none⟩ = some (.int .u8 (n1.toNat : Int)) := (blk_cell BKgn.out 1).trans rfl; have hfz362 := blk_frozen BKgn.out 1; have hcz363 : v32.cell? ⟨gn, 2, none⟩ = some (.int .u8 (y0.toNat : Int)) := (blk_cell BKgn.out 2).trans rfl; have hfz363 := blk_frozen BKgn.out 2; have hcz364 : v32.cell? ⟨gn, 3, none⟩ = some (.int .u8 (y1.toNat : Int)) := (blk_cell BKgn.out 3).trans rfl; have hfz364 := blk_frozen BKgn.out 3; have hcz365 : v32.cell? ⟨gn, 4, none⟩ = some (.int .u8 (y2.toNat : Int)) := (blk_cell BKgn.out 4).trans rfl; have hfz365 := blk_frozen BKgn.out 4; have hcz366 : v32.cell? ⟨gn, 5, none⟩ = some (.int .u8 (y3.toNat : Int)) := (blk_cell BKgn.out 5).trans rfl; have hfz366 := blk_frozen BKgn.out 5; have hcz367 : v32.cell? ⟨gw, 0, none⟩ = some (.int .i64 t.q) := (blk_cell BKgw.out 0).trans rfl; have hfz367 := blk_frozen BKgw.out 0; have hcz368 : v32.cell? ⟨gw, 1, none⟩ = some (.int .i64 t.g) := (blk_cell BKgw.out 1).trans rfl; have hfz368 := blk_frozen BKgw.out 1; have hcz369 : v32.cell? ⟨gw, 2, none⟩ = some (.int .i64 t.l) := (blk_cell BKgw.out 2).trans rfl; have hfz369 := blk_frozen BKgw.out 2; have hcz370 : v32.cell? ⟨gw, 3, none⟩ = some (.int .i64 t.r) := (blk_cell BKgw.out 3).trans rfl; have hfz370 := blk_frozen BKgw.out 3; have hcz371 : v32.cell? ⟨gw, 4, none⟩ = some (.int .i64 t.t) := (blk_cell BKgw.out 4).trans rfl; have hfz371 := blk_frozen BKgw.out 4; have hcz372 : v32.cell? ⟨gw, 5, none⟩ = some (.int .i64 t.c) := (blk_cell BKgw.out 5).trans rfl; have hfz372 := blk_frozen BKgw.out 5))
        rw [Hcv.out _ hR]
        go_wp2_with fail
        with_reducible refine (CD.out _ (Glob.below HG.out (by repeat (first | (with_reducible first | exact HB.out | apply below_alloc | apply pw_below_drewN | apply below_drew1 | refine below_set ?_ GEgs.out | refine below_set ?_ GEgt.out | refine below_set ?_ GEgn.out | refine below_set ?_ GEgw.out) | exact HB.out)))).mono ?_
        rintro e v33 ⟨rfl, hb⟩
        have hR2_ := hR.below Hpos.out hb; clear hR; have hR := hR2_; clear hR2_
        have n0_ := Aside0.mk (blk_below (g := gs) (o := .cells #[.int .i64 s.q, .int .i64 s.g, .int .i64 s.l, .int .i64 s.r, .int .i64 s.t, .int .i64 s.c] 43 (0, 0)) (by (with_reducible repeat (first | refine blk_drewN ?_ _ | refine blk_drew ?_ | refine blk_alloc ?_ _)); exact BKgs.out) hb)
        have n1_ := Aside0.mk (blk_below (g := gt) (o := .cells #[.int .i64 t.q, .int .i64 t.g, .int .i64 t.l, .int .i64 t.r, .int .i64 t.t, .int .i64 t.c] 43 (0, 0)) (by (with_reducible repeat (first | refine blk_drewN ?_ _ | refine blk_drew ?_ | refine blk_alloc ?_ _)); exact BKgt.out) hb)
        have n2_ := Aside0.mk (blk_below (g := gn) (o := .cells #[.int .u8 (n0.toNat : Int), .int .u8 (n1.toNat : Int), .int .u8 (y0.toNat : Int), .int .u8 (y1.toNat : Int), .int .u8 (y2.toNat : Int), .int .u8 (y3.toNat : Int)] 57 (0, 0)) (by (with_reducible repeat (first | refine blk_drewN ?_ _ | refine blk_drew ?_ | refine blk_alloc ?_ _)); exact BKgn.out) hb)
        have n3_ := Aside0.mk (blk_below (g := gw) (o := .cells #[.int .i64 t.q, .int .i64 t.g, .int .i64 t.l, .int .i64 t.r, .int .i64 t.t, .int .i64 t.c] 43 (0, 0)) (by (with_reducible repeat (first | refine blk_drewN ?_ _ | refine blk_drew ?_ | refine blk_alloc ?_ _)); exact BKgw.out) hb)
        have n4_ := Aside0.mk (below_step (by repeat (first | (with_reducible first | exact HB.out | apply below_alloc | apply pw_below_drewN | apply below_drew1 | refine below_set ?_ GEgs.out | refine below_set ?_ GEgt.out | refine below_set ?_ GEgn.out | refine below_set ?_ GEgw.out) | exact HB.out)) hb)
        clear hcz361 hfz361 hcz362 hfz362 hcz363 hfz363 hcz364 hfz364 hcz365 hfz365 hcz366 hfz366 hcz367 hfz367 hcz368 hfz368 hcz369 hfz369 hcz370 hfz370 hcz371 hfz371 hcz372 hfz372
        clear BKgs
        clear BKgt
        clear BKgn
        clear BKgw
        clear HB
        have BKgs := n0_; clear n0_
        have BKgt := n1_; clear n1_
        have BKgn := n2_; clear n2_
        have BKgw := n3_; clear n3_
        have HB := n4_; clear n4_
        (try clear hb)
        have hcz373 : v33.cell? ⟨gn, 0, none⟩ = some (.int .u8 (n0.toNat : Int)) := (blk_cell BKgn.out 0).trans rfl
        have hfz373 := blk_frozen BKgn.out 0
        have hcz374 : v33.cell? ⟨gn, 1, none⟩ = some (.int .u8 (n1.toNat : Int)) := (blk_cell BKgn.out 1).trans rfl
        have hfz374 := blk_frozen BKgn.out 1
        have hcz375 : v33.cell? ⟨gn, 2, none⟩ = some (.int .u8 (y0.toNat : Int)) := (blk_cell BKgn.out 2).trans rfl
        have hfz375 := blk_frozen BKgn.out 2
        have hcz376 : v33.cell? ⟨gn, 3, none⟩ = some (.int .u8 (y1.toNat : Int)) := (blk_cell BKgn.out 3).trans rfl
        have hfz376 := blk_frozen BKgn.out 3
        have hcz377 : v33.cell? ⟨gn, 4, none⟩ = some (.int .u8 (y2.toNat : Int)) := (blk_cell BKgn.out 4).trans rfl
        have hfz377 := blk_frozen BKgn.out 4
        have hcz378 : v33.cell? ⟨gn, 5, none⟩ = some (.int .u8 (y3.toNat : Int)) := (blk_cell BKgn.out 5).trans rfl
        have hfz378 := blk_frozen BKgn.out 5
        have hcz379 : v33.cell? ⟨gw, 0, none⟩ = some (.int .i64 t.q) := (blk_cell BKgw.out 0).trans rfl
        have hfz379 := blk_frozen BKgw.out 0
        have hcz380 : v33.cell? ⟨gw, 1, none⟩ = some (.int .i64 t.g) := (blk_cell BKgw.out 1).trans rfl
        have hfz380 := blk_frozen BKgw.out 1
        have hcz381 : v33.cell? ⟨gw, 2, none⟩ = some (.int .i64 t.l) := (blk_cell BKgw.out 2).trans rfl
        have hfz381 := blk_frozen BKgw.out 2
        have hcz382 : v33.cell? ⟨gw, 3, none⟩ = some (.int .i64 t.r) := (blk_cell BKgw.out 3).trans rfl
        have hfz382 := blk_frozen BKgw.out 3
        have hcz383 : v33.cell? ⟨gw, 4, none⟩ = some (.int .i64 t.t) := (blk_cell BKgw.out 4).trans rfl
        have hfz383 := blk_frozen BKgw.out 4
        have hcz384 : v33.cell? ⟨gw, 5, none⟩ = some (.int .i64 t.c) := (blk_cell BKgw.out 5).trans rfl
        have hfz384 := blk_frozen BKgw.out 5
        go_wp2_with (first | ((with_reducible refine gate_dst (N := 15) rfl ?_); (try (refine gate_guard (by rfl) ?_; dsimp only)); refine box_event ?hg (N := 15) ?hd (cs := #[.int .i64 0, .int .i64 0, .int .i64 0, .int .i64 0, .int .i64 0, .int .i64 0]) (t := 43) ?hr ?_; (case hd => rfl); (case hg => rfl); (case hr => first | (go_simp; done) | (go_simp; rfl)); intro gd hg v34 hbox hb; have n0_ := Aside0.mk (by rw [hg]; exact Nat.ne_of_lt (blk_lt (g := gs) (o := .cells #[.int .i64 s.q, .int .i64 s.g, .int .i64 s.l, .int .i64 s.r, .int .i64 s.t, .int .i64 s.c] 43 (0, 0)) (by (with_reducible repeat (first | refine blk_drewN ?_ _ | refine blk_drew ?_ | refine blk_alloc ?_ _)); exact BKgs.out)) : gs ≠ gd); have n1_ := Aside0.mk (by rw [hg]; exact Nat.ne_of_gt (blk_lt (g := gs) (o := .cells #[.int .i64 s.q, .int .i64 s.g, .int .i64 s.l, .int .i64 s.r, .int .i64 s.t, .int .i64 s.c] 43 (0, 0)) (by (with_reducible repeat (first | refine blk_drewN ?_ _ | refine blk_drew ?_ | refine blk_alloc ?_ _)); exact BKgs.out)) : gd ≠ gs); have n2_ := Aside0.mk (by rw [hg]; exact Nat.ne_of_lt (blk_lt (g := gt) (o := .cells #[.int .i64 t.q, .int .i64 t.g, .int .i64 t.l, .int .i64 t.r, .int .i64 t.t, .int .i64 t.c] 43 (0, 0)) (by (with_reducible repeat (first | refine blk_drewN ?_ _ | refine blk_drew ?_ | refine blk_alloc ?_ _)); exact BKgt.out)) : gt ≠ gd); have n3_ := Aside0.mk (by rw [hg]; exact Nat.ne_of_gt (blk_lt (g := gt) (o := .cells #[.int .i64 t.q, .int .i64 t.g, .int .i64 t.l, .int .i64 t.r, .int .i64 t.t, .int .i64 t.c] 43 (0, 0)) (by (with_reducible repeat (first | refine blk_drewN ?_ _ | refine blk_drew ?_ | refine blk_alloc ?_ _)); exact BKgt.out)) : gd ≠ gt); have n4_ := Aside0.mk (by rw [hg]; exact Nat.ne_of_lt (blk_lt (g := gn) (o := .cells #[.int .u8 (n0.toNat : Int), .int .u8 (n1.toNat : Int), .int .u8 (y0.toNat : Int), .int .u8 (y1.toNat : Int), .int .u8 (y2.toNat : Int), .int .u8 (y3.toNat : Int)] 57 (0, 0)) (by (with_reducible repeat (first | refine blk_drewN ?_ _ | refine blk_drew ?_ | refine blk_alloc ?_ _)); exact BKgn.out)) : gn ≠ gd); have n5_ := Aside0.mk (by rw [hg]; exact Nat.ne_of_gt (blk_lt (g := gn) (o := .cells #[.int .u8 (n0.toNat : Int), .int .u8 (n1.toNat : Int), .int .u8 (y0.toNat : Int), .int .u8 (y1.toNat : Int), .int .u8 (y2.toNat : Int), .int .u8 (y3.toNat : Int)] 57 (0, 0)) (by (with_reducible repeat (first | refine blk_drewN ?_ _ | refine blk_drew ?_ | refine blk_alloc ?_ _)); exact BKgn.out)) : gd ≠ gn); have n6_ := Aside0.mk (by rw [hg]; exact Nat.ne_of_lt (blk_lt (g := gw) (o := .cells #[.int .i64 t.q, .int .i64 t.g, .int .i64 t.l, .int .i64 t.r, .int .i64 t.t, .int .i64 t.c] 43 (0, 0)) (by (with_reducible repeat (first | refine blk_drewN ?_ _ | refine blk_drew ?_ | refine blk_alloc ?_ _)); exact BKgw.out)) : gw ≠ gd); have n7_ := Aside0.mk (by rw [hg]; exact Nat.ne_of_gt (blk_lt (g := gw) (o := .cells #[.int .i64 t.q, .int .i64 t.g, .int .i64 t.l, .int .i64 t.r, .int .i64 t.t, .int .i64 t.c] 43 (0, 0)) (by (with_reducible repeat (first | refine blk_drewN ?_ _ | refine blk_drew ?_ | refine blk_alloc ?_ _)); exact BKgw.out)) : gd ≠ gw); have n8_ := Aside0.mk (by rw [hg]; exact below_size (by repeat (first | (with_reducible first | exact HB.out | apply below_alloc | apply pw_below_drewN | apply below_drew1 | refine below_set ?_ GEgs.out | refine below_set ?_ GEgt.out | refine below_set ?_ GEgn.out | refine below_set ?_ GEgw.out) | exact HB.out)) : w.heap.size ≤ gd); have n9_ := Aside0.mk (blk_below (g := gs) (o := .cells #[.int .i64 s.q, .int .i64 s.g, .int .i64 s.l, .int .i64 s.r, .int .i64 s.t, .int .i64 s.c] 43 (0, 0)) (by (with_reducible repeat (first | refine blk_drewN ?_ _ | refine blk_drew ?_ | refine blk_alloc ?_ _)); exact BKgs.out) hb); have n10_ := Aside0.mk (blk_below (g := gt) (o := .cells #[.int .i64 t.q, .int .i64 t.g, .int .i64 t.l, .int .i64 t.r, .int .i64 t.t, .int .i64 t.c] 43 (0, 0)) (by (with_reducible repeat (first | refine blk_drewN ?_ _ | refine blk_drew ?_ | refine blk_alloc ?_ _)); exact BKgt.out) hb); have n11_ := Aside0.mk (blk_below (g := gn) (o := .cells #[.int .u8 (n0.toNat : Int), .int .u8 (n1.toNat : Int), .int .u8 (y0.toNat : Int), .int .u8 (y1.toNat : Int), .int .u8 (y2.toNat : Int), .int .u8 (y3.toNat : Int)] 57 (0, 0)) (by (with_reducible repeat (first | refine blk_drewN ?_ _ | refine blk_drew ?_ | refine blk_alloc ?_ _)); exact BKgn.out) hb); have n12_ := Aside0.mk (blk_below (g := gw) (o := .cells #[.int .i64 t.q, .int .i64 t.g, .int .i64 t.l, .int .i64 t.r, .int .i64 t.t, .int .i64 t.c] 43 (0, 0)) (by (with_reducible repeat (first | refine blk_drewN ?_ _ | refine blk_drew ?_ | refine blk_alloc ?_ _)); exact BKgw.out) hb); have n13_ := Aside0.mk (below_step (by repeat (first | (with_reducible first | exact HB.out | apply below_alloc | apply pw_below_drewN | apply below_drew1 | refine below_set ?_ GEgs.out | refine below_set ?_ GEgt.out | refine below_set ?_ GEgn.out | refine below_set ?_ GEgw.out) | exact HB.out)) hb); have n14_ := Aside0.mk hbox; clear hcz373 hfz373 hcz374 hfz374 hcz375 hfz375 hcz376 hfz376 hcz377 hfz377 hcz378 hfz378 hcz379 hfz379 hcz380 hfz380 hcz381 hfz381 hcz382 hfz382 hcz383 hfz383 hcz384 hfz384; clear BKgs; clear BKgt; clear BKgn; clear BKgw; clear HB; have NBgs_gd := n0_; clear n0_; have NBgd_gs := n1_; clear n1_; have NBgt_gd := n2_; clear n2_; have NBgd_gt := n3_; clear n3_; have NBgn_gd := n4_; clear n4_; have NBgd_gn := n5_; clear n5_; have NBgw_gd := n6_; clear n6_; have NBgd_gw := n7_; clear n7_; have GEgd := n8_; clear n8_; have BKgs := n9_; clear n9_; have BKgt := n10_; clear n10_; have BKgn := n11_; clear n11_; have BKgw := n12_; clear n12_; have HB := n13_; clear n13_; have BKgd := n14_; clear n14_; have hgB_gd := Nat.ne_of_lt (hR.lt Hpos.out); rw [← hg] at hgB_gd; have hR2_ := hR.below Hpos.out hb; clear hR; have hR := hR2_; clear hR2_; clear hb hbox hg; have hcz385 : v34.cell? ⟨gn, 0, none⟩ = some (.int .u8 (n0.toNat : Int)) := (blk_cell BKgn.out 0).trans rfl; have hfz385 := blk_frozen BKgn.out 0; have hcz386 : v34.cell? ⟨gn, 1, none⟩ = some (.int .u8 (n1.toNat : Int)) := (blk_cell BKgn.out 1).trans rfl; have hfz386 := blk_frozen BKgn.out 1; have hcz387 : v34.cell? ⟨gn, 2, none⟩ = some (.int .u8 (y0.toNat : Int)) := (blk_cell BKgn.out 2).trans rfl; have hfz387 := blk_frozen BKgn.out 2; have hcz388 : v34.cell? ⟨gn, 3, none⟩ = some (.int .u8 (y1.toNat : Int)) := (blk_cell BKgn.out 3).trans rfl; have hfz388 := blk_frozen BKgn.out 3; have hcz389 : v34.cell? ⟨gn, 4, none⟩ = some (.int .u8 (y2.toNat : Int)) := (blk_cell BKgn.out 4).trans rfl; have hfz389 := blk_frozen BKgn.out 4; have hcz390 : v34.cell? ⟨gn, 5, none⟩ = some (.int .u8 (y3.toNat : Int)) := (blk_cell BKgn.out 5).trans rfl; have hfz390 := blk_frozen BKgn.out 5; have hcz391 : v34.cell? ⟨gw, 0, none⟩ = some (.int .i64 t.q) := (blk_cell BKgw.out 0).trans rfl; have hfz391 := blk_frozen BKgw.out 0; have hcz392 : v34.cell? ⟨gw, 1, none⟩ = some (.int .i64 t.g) := (blk_cell BKgw.out 1).trans rfl; have hfz392 := blk_frozen BKgw.out 1; have hcz393 : v34.cell? ⟨gw, 2, none⟩ = some (.int .i64 t.l) := (blk_cell BKgw.out 2).trans rfl; have hfz393 := blk_frozen BKgw.out 2; have hcz394 : v34.cell? ⟨gw, 3, none⟩ = some (.int .i64 t.r) := (blk_cell BKgw.out 3).trans rfl; have hfz394 := blk_frozen BKgw.out 3; have hcz395 : v34.cell? ⟨gw, 4, none⟩ = some (.int .i64 t.t) := (blk_cell BKgw.out 4).trans rfl; have hfz395 := blk_frozen BKgw.out 4; have hcz396 : v34.cell? ⟨gw, 5, none⟩ = some (.int .i64 t.c) := (blk_cell BKgw.out 5).trans rfl; have hfz396 := blk_frozen BKgw.out 5; have hcz397 : v34.cell? ⟨gd, 0, none⟩ = some (.int .i64 0) := (blk_cell BKgd.out 0).trans rfl; have hfz397 := blk_frozen BKgd.out 0; have hcz398 : v34.cell? ⟨gd, 1, none⟩ = some (.int .i64 0) := (blk_cell BKgd.out 1).trans rfl; have hfz398 := blk_frozen BKgd.out 1; have hcz399 : v34.cell? ⟨gd, 2, none⟩ = some (.int .i64 0) := (blk_cell BKgd.out 2).trans rfl; have hfz399 := blk_frozen BKgd.out 2; have hcz400 : v34.cell? ⟨gd, 3, none⟩ = some (.int .i64 0) := (blk_cell BKgd.out 3).trans rfl; have hfz400 := blk_frozen BKgd.out 3; have hcz401 : v34.cell? ⟨gd, 4, none⟩ = some (.int .i64 0) := (blk_cell BKgd.out 4).trans rfl; have hfz401 := blk_frozen BKgd.out 4; have hcz402 : v34.cell? ⟨gd, 5, none⟩ = some (.int .i64 0) := (blk_cell BKgd.out 5).trans rfl; have hfz402 := blk_frozen BKgd.out 5) | ((with_reducible refine gate_store (t := 43) (p := 15) rfl ?_); refine store_event (t := 43) (p := 15) (v := ?vo_v35) (w1 := ((((((v34.setCell ⟨gd, 0, none⟩ (.int .i64 t.q)).setCell ⟨gd, 1, none⟩ (.int .i64 t.g)).setCell ⟨gd, 2, none⟩ (.int .i64 t.l)).setCell ⟨gd, 3, none⟩ (.int .i64 t.r)).setCell ⟨gd, 4, none⟩ (.int .i64 t.t)).setCell ⟨gd, 5, none⟩ (.int .i64 t.c))) ?hg ?ho ?hn ?hr ?_; (case ho => rfl); (case hg => rfl); (case hn => rfl); (case hr => first | (go_simp; done) | (go_simp; rfl)); intro v35 hw; have n0_ := Aside0.mk (by rw [hw]; (with_reducible repeat (first | refine blk_drewN ?_ _ | refine blk_drew ?_ | refine blk_alloc ?_ _)); refine blk_far ?_ NBgs_gd.out _; (with_reducible repeat (first | refine blk_drewN ?_ _ | refine blk_drew ?_ | refine blk_alloc ?_ _)); refine blk_far ?_ NBgs_gd.out _; (with_reducible repeat (first | refine blk_drewN ?_ _ | refine blk_drew ?_ | refine blk_alloc ?_ _)); refine blk_far ?_ NBgs_gd.out _; (with_reducible repeat (first | refine blk_drewN ?_ _ | refine blk_drew ?_ | refine blk_alloc ?_ _)); refine blk_far ?_ NBgs_gd.out _; (with_reducible repeat (first | refine blk_drewN ?_ _ | refine blk_drew ?_ | refine blk_alloc ?_ _)); refine blk_far ?_ NBgs_gd.out _; (with_reducible repeat (first | refine blk_drewN ?_ _ | refine blk_drew ?_ | refine blk_alloc ?_ _)); refine blk_far ?_ NBgs_gd.out _; (with_reducible repeat (first | refine blk_drewN ?_ _ | refine blk_drew ?_ | refine blk_alloc ?_ _)); exact BKgs.out : v35.heap[gs]? = some (.cells #[.int .i64 s.q, .int .i64 s.g, .int .i64 s.l, .int .i64 s.r, .int .i64 s.t, .int .i64 s.c] 43 (0, 0))); have n1_ := Aside0.mk (by rw [hw]; (with_reducible repeat (first | refine blk_drewN ?_ _ | refine blk_drew ?_ | refine blk_alloc ?_ _)); refine blk_far ?_ NBgt_gd.out _; (with_reducible repeat (first | refine blk_drewN ?_ _ | refine blk_drew ?_ | refine blk_alloc ?_ _)); refine blk_far ?_ NBgt_gd.out _; (with_reducible repeat (first | refine blk_drewN ?_ _ | refine blk_drew ?_ | refine blk_alloc ?_ _)); refine blk_far ?_ NBgt_gd.out _; (with_reducible repeat (first | refine blk_drewN ?_ _ | refine blk_drew ?_ | refine blk_alloc ?_ _)); refine blk_far ?_ NBgt_gd.out _; (with_reducible repeat (first | refine blk_drewN ?_ _ | refine blk_drew ?_ | refine blk_alloc ?_ _)); refine blk_far ?_ NBgt_gd.out _; (with_reducible repeat (first | refine blk_drewN ?_ _ | refine blk_drew ?_ | refine blk_alloc ?_ _)); refine blk_far ?_ NBgt_gd.out _; (with_reducible repeat (first | refine blk_drewN ?_ _ | refine blk_drew ?_ | refine blk_alloc ?_ _)); exact BKgt.out : v35.heap[gt]? = some (.cells #[.int .i64 t.q, .int .i64 t.g, .int .i64 t.l, .int .i64 t.r, .int .i64 t.t, .int .i64 t.c] 43 (0, 0))); have n2_ := Aside0.mk (by rw [hw]; (with_reducible repeat (first | refine blk_drewN ?_ _ | refine blk_drew ?_ | refine blk_alloc ?_ _)); refine blk_far ?_ NBgn_gd.out _; (with_reducible repeat (first | refine blk_drewN ?_ _ | refine blk_drew ?_ | refine blk_alloc ?_ _)); refine blk_far ?_ NBgn_gd.out _; (with_reducible repeat (first | refine blk_drewN ?_ _ | refine blk_drew ?_ | refine blk_alloc ?_ _)); refine blk_far ?_ NBgn_gd.out _; (with_reducible repeat (first | refine blk_drewN ?_ _ | refine blk_drew ?_ | refine blk_alloc ?_ _)); refine blk_far ?_ NBgn_gd.out _; (with_reducible repeat (first | refine blk_drewN ?_ _ | refine blk_drew ?_ | refine blk_alloc ?_ _)); refine blk_far ?_ NBgn_gd.out _; (with_reducible repeat (first | refine blk_drewN ?_ _ | refine blk_drew ?_ | refine blk_alloc ?_ _)); refine blk_far ?_ NBgn_gd.out _; (with_reducible repeat (first | refine blk_drewN ?_ _ | refine blk_drew ?_ | refine blk_alloc ?_ _)); exact BKgn.out : v35.heap[gn]? = some (.cells #[.int .u8 (n0.toNat : Int), .int .u8 (n1.toNat : Int), .int .u8 (y0.toNat : Int), .int .u8 (y1.toNat : Int), .int .u8 (y2.toNat : Int), .int .u8 (y3.toNat : Int)] 57 (0, 0))); have n3_ := Aside0.mk (by rw [hw]; (with_reducible repeat (first | refine blk_drewN ?_ _ | refine blk_drew ?_ | refine blk_alloc ?_ _)); refine blk_far ?_ NBgw_gd.out _; (with_reducible repeat (first | refine blk_drewN ?_ _ | refine blk_drew ?_ | refine blk_alloc ?_ _)); refine blk_far ?_ NBgw_gd.out _; (with_reducible repeat (first | refine blk_drewN ?_ _ | refine blk_drew ?_ | refine blk_alloc ?_ _)); refine blk_far ?_ NBgw_gd.out _; (with_reducible repeat (first | refine blk_drewN ?_ _ | refine blk_drew ?_ | refine blk_alloc ?_ _)); refine blk_far ?_ NBgw_gd.out _; (with_reducible repeat (first | refine blk_drewN ?_ _ | refine blk_drew ?_ | refine blk_alloc ?_ _)); refine blk_far ?_ NBgw_gd.out _; (with_reducible repeat (first | refine blk_drewN ?_ _ | refine blk_drew ?_ | refine blk_alloc ?_ _)); refine blk_far ?_ NBgw_gd.out _; (with_reducible repeat (first | refine blk_drewN ?_ _ | refine blk_drew ?_ | refine blk_alloc ?_ _)); exact BKgw.out : v35.heap[gw]? = some (.cells #[.int .i64 t.q, .int .i64 t.g, .int .i64 t.l, .int .i64 t.r, .int .i64 t.t, .int .i64 t.c] 43 (0, 0))); have n4_ := Aside0.mk (by rw [hw]; (with_reducible repeat (first | refine blk_drewN ?_ _ | refine blk_drew ?_ | refine blk_alloc ?_ _)); refine blk_put (cs := #[.int .i64 t.q, .int .i64 t.g, .int .i64 t.l, .int .i64 t.r, .int .i64 t.t, .int .i64 0]) ?_ 5 _ rfl; (with_reducible repeat (first | refine blk_drewN ?_ _ | refine blk_drew ?_ | refine blk_alloc ?_ _)); refine blk_put (cs := #[.int .i64 t.q, .int .i64 t.g, .int .i64 t.l, .int .i64 t.r, .int .i64 0, .int .i64 0]) ?_ 4 _ rfl; (with_reducible repeat (first | refine blk_drewN ?_ _ | refine blk_drew ?_ | refine blk_alloc ?_ _)); refine blk_put (cs := #[.int .i64 t.q, .int .i64 t.g, .int .i64 t.l, .int .i64 0, .int .i64 0, .int .i64 0]) ?_ 3 _ rfl; (with_reducible repeat (first | refine blk_drewN ?_ _ | refine blk_drew ?_ | refine blk_alloc ?_ _)); refine blk_put (cs := #[.int .i64 t.q, .int .i64 t.g, .int .i64 0, .int .i64 0, .int .i64 0, .int .i64 0]) ?_ 2 _ rfl; (with_reducible repeat (first | refine blk_drewN ?_ _ | refine blk_drew ?_ | refine blk_alloc ?_ _)); refine blk_put (cs := #[.int .i64 t.q, .int .i64 0, .int .i64 0, .int .i64 0, .int .i64 0, .int .i64 0]) ?_ 1 _ rfl; (with_reducible repeat (first | refine blk_drewN ?_ _ | refine blk_drew ?_ | refine blk_alloc ?_ _)); refine blk_put (cs := #[.int .i64 0, .int .i64 0, .int .i64 0, .int .i64 0, .int .i64 0, .int .i64 0]) ?_ 0 _ rfl; (with_reducible repeat (first | refine blk_drewN ?_ _ | refine blk_drew ?_ | refine blk_alloc ?_ _)); exact BKgd.out : v35.heap[gd]? = some (.cells #[.int .i64 t.q, .int .i64 t.g, .int .i64 t.l, .int .i64 t.r, .int .i64 t.t, .int .i64 t.c] 43 (0, 0))); have n5_ := Aside0.mk (by rw [hw]; repeat (first | (with_reducible first | exact HB.out | apply below_alloc | apply pw_below_drewN | apply below_drew1 | refine below_set ?_ GEgs.out | refine below_set ?_ GEgt.out | refine below_set ?_ GEgn.out | refine below_set ?_ GEgw.out | refine below_set ?_ GEgd.out) | exact HB.out) : Below w.heap.size w v35); clear hcz385 hfz385 hcz386 hfz386 hcz387 hfz387 hcz388 hfz388 hcz389 hfz389 hcz390 hfz390 hcz391 hfz391 hcz392 hfz392 hcz393 hfz393 hcz394 hfz394 hcz395 hfz395 hcz396 hfz396 hcz397 hfz397 hcz398 hfz398 hcz399 hfz399 hcz400 hfz400 hcz401 hfz401 hcz402 hfz402; clear BKgs; clear BKgt; clear BKgn; clear BKgw; clear BKgd; clear HB; have BKgs := n0_; clear n0_; have BKgt := n1_; clear n1_; have BKgn := n2_; clear n2_; have BKgw := n3_; clear n3_; have BKgd := n4_; clear n4_; have HB := n5_; clear n5_; have hR2_ : Row v35 g (M0 ++ tl) := (by rw [hw]; exact ((((((hR.far hgB_gd (p := ⟨gd, 0, none⟩) _).far hgB_gd (p := ⟨gd, 1, none⟩) _).far hgB_gd (p := ⟨gd, 2, none⟩) _).far hgB_gd (p := ⟨gd, 3, none⟩) _).far hgB_gd (p := ⟨gd, 4, none⟩) _).far hgB_gd (p := ⟨gd, 5, none⟩) _)); clear hR; have hR := hR2_; clear hR2_; clear hw; have hcz403 : v35.cell? ⟨gn, 0, none⟩ = some (.int .u8 (n0.toNat : Int)) := (blk_cell BKgn.out 0).trans rfl; have hfz403 := blk_frozen BKgn.out 0; have hcz404 : v35.cell? ⟨gn, 1, none⟩ = some (.int .u8 (n1.toNat : Int)) := (blk_cell BKgn.out 1).trans rfl; have hfz404 := blk_frozen BKgn.out 1; have hcz405 : v35.cell? ⟨gn, 2, none⟩ = some (.int .u8 (y0.toNat : Int)) := (blk_cell BKgn.out 2).trans rfl; have hfz405 := blk_frozen BKgn.out 2; have hcz406 : v35.cell? ⟨gn, 3, none⟩ = some (.int .u8 (y1.toNat : Int)) := (blk_cell BKgn.out 3).trans rfl; have hfz406 := blk_frozen BKgn.out 3; have hcz407 : v35.cell? ⟨gn, 4, none⟩ = some (.int .u8 (y2.toNat : Int)) := (blk_cell BKgn.out 4).trans rfl; have hfz407 := blk_frozen BKgn.out 4; have hcz408 : v35.cell? ⟨gn, 5, none⟩ = some (.int .u8 (y3.toNat : Int)) := (blk_cell BKgn.out 5).trans rfl; have hfz408 := blk_frozen BKgn.out 5; have hcz409 : v35.cell? ⟨gw, 0, none⟩ = some (.int .i64 t.q) := (blk_cell BKgw.out 0).trans rfl; have hfz409 := blk_frozen BKgw.out 0; have hcz410 : v35.cell? ⟨gw, 1, none⟩ = some (.int .i64 t.g) := (blk_cell BKgw.out 1).trans rfl; have hfz410 := blk_frozen BKgw.out 1; have hcz411 : v35.cell? ⟨gw, 2, none⟩ = some (.int .i64 t.l) := (blk_cell BKgw.out 2).trans rfl; have hfz411 := blk_frozen BKgw.out 2; have hcz412 : v35.cell? ⟨gw, 3, none⟩ = some (.int .i64 t.r) := (blk_cell BKgw.out 3).trans rfl; have hfz412 := blk_frozen BKgw.out 3; have hcz413 : v35.cell? ⟨gw, 4, none⟩ = some (.int .i64 t.t) := (blk_cell BKgw.out 4).trans rfl; have hfz413 := blk_frozen BKgw.out 4; have hcz414 : v35.cell? ⟨gw, 5, none⟩ = some (.int .i64 t.c) := (blk_cell BKgw.out 5).trans rfl; have hfz414 := blk_frozen BKgw.out 5; have hcz415 : v35.cell? ⟨gd, 0, none⟩ = some (.int .i64 t.q) := (blk_cell BKgd.out 0).trans rfl; have hfz415 := blk_frozen BKgd.out 0; have hcz416 : v35.cell? ⟨gd, 1, none⟩ = some (.int .i64 t.g) := (blk_cell BKgd.out 1).trans rfl; have hfz416 := blk_frozen BKgd.out 1; have hcz417 : v35.cell? ⟨gd, 2, none⟩ = some (.int .i64 t.l) := (blk_cell BKgd.out 2).trans rfl; have hfz417 := blk_frozen BKgd.out 2; have hcz418 : v35.cell? ⟨gd, 3, none⟩ = some (.int .i64 t.r) := (blk_cell BKgd.out 3).trans rfl; have hfz418 := blk_frozen BKgd.out 3; have hcz419 : v35.cell? ⟨gd, 4, none⟩ = some (.int .i64 t.t) := (blk_cell BKgd.out 4).trans rfl; have hfz419 := blk_frozen BKgd.out 4; have hcz420 : v35.cell? ⟨gd, 5, none⟩ = some (.int .i64 t.c) := (blk_cell BKgd.out 5).trans rfl; have hfz420 := blk_frozen BKgd.out 5))
        obtain ⟨k, hk, hk57⟩ := at57 n1
        rw [hk]
        have hrow := hR; have kgn := BKgn.out; have kbel := HB.out
        have Hk := Lib.hid hk57
        have Hpos2 := Hpos
        clear hk hk57 hR HB BKgs BKgt BKgn BKgw BKgd
        clear hcz403 hfz403 hcz404 hfz404 hcz405 hfz405 hcz406 hfz406 hcz407 hfz407 hcz408 hfz408 hcz409 hfz409 hcz410 hfz410 hcz411 hfz411 hcz412 hfz412 hcz413 hfz413 hcz414 hfz414 hcz415 hfz415 hcz416 hfz416 hcz417 hfz417 hcz418 hfz418 hcz419 hfz419 hcz420 hfz420
        go_loopw [18, 19] (fun v18 v19 w' => ∃ (i : Nat) (m : List UInt8) (b : Bool), i ≤ 4 ∧ m.length = 60 ∧ Crc.leNum m = Crc.leNum M0 ^^^ (2 ^ (8 * k) * Crc.leNum ([y0, y1, y2, y3].take i)) ∧ (b = false ↔ Crc.leNum ([y0, y1, y2, y3].take i) = 0) ∧ v19 = .int .i64 (i : Int) ∧ v18 = .bool b ∧ Row w' g (m ++ tl) ∧ w'.heap[gn]? = some (.cells #[.int .u8 (n0.toNat : Int), .int .u8 (n1.toNat : Int), .int .u8 (y0.toNat : Int), .int .u8 (y1.toNat : Int), .int .u8 (y2.toNat : Int), .int .u8 (y3.toNat : Int)] 57 (0, 0)) ∧ Below w.heap.size w w') (fun _ v19 _ => 4 - (intOf v19).toNat)
        case atStart => exact ⟨0, M0, false, by omega, HM0n.out, by rw [List.take_zero]; show _ = Crc.leNum M0 ^^^ (2 ^ (8 * k) * 0); rw [Nat.mul_zero, Nat.xor_zero], ⟨fun _ => rfl, fun _ => rfl⟩, rfl, rfl, hrow, kgn, kbel⟩
        clear hrow kgn kbel
        case round =>
          obtain ⟨i, m, b, hi, hml, hle, hfl, rfl, rfl, hR, hgn, hb⟩ := hrel
          have Hle := Lib.hid hle
          have Hml := Lib.hid hml
          have Hfl := Lib.hid hfl
          clear hle hml hfl
          by_cases hlt : i < 4
          · obtain ⟨y, hyc, hyi⟩ := y_at n0 n1 y0 y1 y2 y3 hgn i hlt
            obtain ⟨j, hj⟩ : ∃ j, j = k + i := ⟨_, rfl⟩
            obtain ⟨j2, hj2⟩ : ∃ j, j = 2 + i := ⟨_, rfl⟩
            have hjw : IntKind.i64.wrap ((k : Int) + (i : Int)) = (j : Int) := by have := Hk.out; rw [i64_w, hj]; unfold wrap64; omega
            have hjw2 : IntKind.i64.wrap (2 + (i : Int)) = (j2 : Int) := by rw [i64_w, hj2]; unfold wrap64; omega
            have hi1 : wrap64 ((i : Int) + 1) = ((i + 1 : Nat) : Int) := by unfold wrap64; omega
            have hj6 : ((j : Int) < 256) = True := eq_true (by have := Hk.out; omega)
            have hj60 : (0 ≤ (j : Int)) = True := eq_true (by omega)
            have hj26 : ((j2 : Int) < 6) = True := eq_true (by omega)
            have hj20 : (0 ≤ (j2 : Int)) = True := eq_true (by omega)
            have hi4 : ((i : Int) < 4) = True := eq_true (by omega)
            rw [← hj2] at hyc
            have hql : j < (m ++ tl).length := by have := Hk.out; rw [List.length_append, Hml.out, Htn.out]; omega
            have hcl := hR.cell _ hql
            have hfr := hR.free _ hql
            obtain ⟨x, hx⟩ : ∃ x, x = (m ++ tl)[j] := ⟨_, rfl⟩
            rw [← hx] at hcl
            have hkm : j < m.length := by have := Hk.out; rw [Hml.out]; omega
            have hxm : m[j] = x := by rw [hx, List.getElem_append_left hkm]
            have hx8 := xor_byte x y
            have hnext : ∀ u : Value, u = .int .u8 (((x ^^^ y).toNat : Nat) : Int) → Row ((wr.setCell ⟨g, j, none⟩ u).drew) g (m.set j (x ^^^ y) ++ tl) := fun u hu => by
              have := hR.set _ hql (x ^^^ y)
              rw [List.set_append_left _ _ hkm] at this
              rw [hu]
              exact ⟨this.cell, this.free⟩
            have hturn : Crc.leNum (m.set j (x ^^^ y)) = Crc.leNum M0 ^^^ (2 ^ (8 * k) * Crc.leNum ([y0, y1, y2, y3].take (i + 1))) := by
              have hi4 : i < [y0, y1, y2, y3].length := hlt
              subst hj
              have := Crc.turn_more M0 m [y0, y1, y2, y3] k i hi4 Hle.out hkm
              rw [hxm, show [y0, y1, y2, y3][i] = y by rw [List.getElem?_eq_getElem hi4] at hyi; exact Option.some.inj hyi] at this
              exact this
            have Hnext := Lib.hid hnext
            have Hturn := Lib.hid hturn
            have Hlt := Lib.hid hlt; have Hyi := Lib.hid hyi; have Hj2 := Lib.hid hj2
            clear hnext hturn hx hxm hyi hql hkm hj hj2 hlt hi
            go_wp2
            have hcl2 : wr.drew.cell? ⟨g, j, none⟩ = some (.int .u8 ((x.toNat : Nat) : Int)) := hcl
            have hyc2 : wr.drew.cell? ⟨gn, j2, none⟩ = some (.int .u8 (y.toNat : Int)) := hyc
            have hfr2 : wr.drew.frozen? ⟨g, j, none⟩ = false := hfr
            refine start_ (n := 13) (S := (fun w' => w'.cell? ⟨g, j, none⟩ = some (.int .u8 ((x.toNat : Nat) : Int)) ∧ w'.cell? ⟨gn, j2, none⟩ = some (.int .u8 (y.toNat : Int)))) (ds := [12]) #[false, false, false, false, false, false, false, false, false, false, false, false, false] (by kernel_rfl) rfl rfl ⟨hcl, hyc⟩ (fun hHeld => ?_)
            refine pure_ (i := 0) (N := (some 110)) (v := ?_) (a' := ?_) #[true, false, false, false, false, false, false, false, false, false, false, false, false] rfl rfl (by kernel_rfl) (fun _ _ _ h => h) (Or.inl ⟨by rfl, ?_⟩) ?_ ?_
            rotate_left
            · intro w'
              go_simp
              with_reducible rfl
            rotate_left
            · simp only [Act.put, List.setIfInBounds_toArray, List.set_cons_zero, List.set_cons_succ]
              rfl
            refine pure_ (i := 1) (N := (some 111)) (v := ?_) (a' := ?_) #[true, true, false, false, false, false, false, false, false, false, false, false, false] rfl rfl (by kernel_rfl) (fun _ _ _ h => h) (Or.inl ⟨by rfl, ?_⟩) ?_ ?_
            rotate_left
            · intro w'
              go_simp
              with_reducible rfl
            rotate_left
            · simp only [Act.put, List.setIfInBounds_toArray, List.set_cons_zero, List.set_cons_succ]
              rfl
            refine pure_ (i := 2) (N := (some 112)) (v := ?_) (a' := ?_) #[true, true, true, false, false, false, false, false, false, false, false, false, false] rfl rfl (by kernel_rfl) (fun _ _ _ h => h) (Or.inl ⟨by rfl, ?_⟩) ?_ ?_
            rotate_left
            · intro w'
              go_simp
              with_reducible rfl
            rotate_left
            · simp only [Act.put, List.setIfInBounds_toArray, List.set_cons_zero, List.set_cons_succ]
              rfl
            refine pure_ (i := 3) (N := (some 113)) (v := ?_) (a' := ?_) #[true, true, true, true, false, false, false, false, false, false, false, false, false] rfl rfl (by kernel_rfl) (fun _ _ _ h => h) (Or.inl ⟨by rfl, ?_⟩) ?_ ?_
            rotate_left
            · intro w'
              go_simp
              with_reducible rfl
            rotate_left
            · simp only [Act.put, List.setIfInBounds_toArray, List.set_cons_zero, List.set_cons_succ]
              rfl
            refine pure_ (i := 4) (N := (some 114)) (v := ?_) (a' := ?_) #[true, true, true, true, true, false, false, false, false, false, false, false, false] rfl rfl (by kernel_rfl) (fun _ _ _ h => h) (Or.inl ⟨by rfl, ?_⟩) ?_ ?_
            rotate_left
            · intro w'
              go_simp
              with_reducible rfl
            rotate_left
            · simp only [Act.put, List.setIfInBounds_toArray, List.set_cons_zero, List.set_cons_succ]
              rfl
            refine take_ (i := 5) (N := (some 115)) (v := ?_) (a' := ?_) #[true, true, true, true, true, true, false, false, false, false, false, false, false] rfl rfl (by kernel_rfl) (fun _ _ _ h => h) (Or.inl ⟨by rfl, ?_⟩) hHeld ?_ ?_
            rotate_left
            · rintro w' ⟨hs1_, hs2_⟩
              go_simp
              with_reducible rfl
            rotate_left
            · simp only [Act.put, List.setIfInBounds_toArray, List.set_cons_zero, List.set_cons_succ]
              rfl
            refine pure_ (i := 6) (N := (some 116)) (v := ?_) (a' := ?_) #[true, true, true, true, true, true, true, false, false, false, false, false, false] rfl rfl (by kernel_rfl) (fun _ _ _ h => h) (Or.inl ⟨by rfl, ?_⟩) ?_ ?_
            rotate_left
            · intro w'
              go_simp
              with_reducible rfl
            rotate_left
            · simp only [Act.put, List.setIfInBounds_toArray, List.set_cons_zero, List.set_cons_succ]
              rfl
            refine pure_ (i := 7) (N := (some 117)) (v := ?_) (a' := ?_) #[true, true, true, true, true, true, true, true, false, false, false, false, false] rfl rfl (by kernel_rfl) (fun _ _ _ h => h) (Or.inl ⟨by rfl, ?_⟩) ?_ ?_
            rotate_left
            · intro w'
              go_simp
              with_reducible rfl
            rotate_left
            · simp only [Act.put, List.setIfInBounds_toArray, List.set_cons_zero, List.set_cons_succ]
              rfl
            refine pure_ (i := 8) (N := (some 118)) (v := ?_) (a' := ?_) #[true, true, true, true, true, true, true, true, true, false, false, false, false] rfl rfl (by kernel_rfl) (fun _ _ _ h => h) (Or.inl ⟨by rfl, ?_⟩) ?_ ?_
            rotate_left
            · intro w'
              go_simp
              with_reducible rfl
            rotate_left
            · simp only [Act.put, List.setIfInBounds_toArray, List.set_cons_zero, List.set_cons_succ]
              rfl
            refine take_ (i := 9) (N := (some 119)) (v := ?_) (a' := ?_) #[true, true, true, true, true, true, true, true, true, true, false, false, false] rfl rfl (by kernel_rfl) (fun _ _ _ h => h) (Or.inl ⟨by rfl, ?_⟩) hHeld ?_ ?_
            rotate_left
            · rintro w' ⟨hs1_, hs2_⟩
              go_simp
              with_reducible rfl
            rotate_left
            · simp only [Act.put, List.setIfInBounds_toArray, List.set_cons_zero, List.set_cons_succ]
              rfl
            refine pure_ (i := 10) (N := (some 120)) (v := ?_) (a' := ?_) #[true, true, true, true, true, true, true, true, true, true, true, false, false] rfl rfl (by kernel_rfl) (fun _ _ _ h => h) (Or.inl ⟨by rfl, ?_⟩) ?_ ?_
            rotate_left
            · intro w'
              go_simp
              with_reducible rfl
            rotate_left
            · simp only [Act.put, List.setIfInBounds_toArray, List.set_cons_zero, List.set_cons_succ]
              rfl
            refine pure_ (i := 11) (N := (some 121)) (v := ?_) (a' := ?_) #[true, true, true, true, true, true, true, true, true, true, true, true, false] rfl rfl (by kernel_rfl) (fun _ _ _ h => h) (Or.inl ⟨by rfl, ?_⟩) ?_ ?_
            rotate_left
            · intro w'
              go_simp
              with_reducible rfl
            rotate_left
            · simp only [Act.put, List.setIfInBounds_toArray, List.set_cons_zero, List.set_cons_succ]
              rfl
            refine last_ (i := 12) (N := none) #[true, true, true, true, true, true, true, true, true, true, true, true, true] rfl rfl (by kernel_rfl) (by decide) (fun K hK => ?_)
            refine skip_ (w1 := ?_) (by rfl) rfl ?_ ?_
            rotate_left
            · go_simp
              rfl
            refine hK.out _ _ ?_
            clear hK K
            refine done_ (by kernel_rfl) ?_
            obtain ⟨W2, hW2⟩ : ∃ W2, W2 = (wr.setCell ⟨g, j, none⟩ (.int .u8 ((x.toNat ^^^ y.toNat : Nat) : Int))).drew := ⟨_, rfl⟩
            have hR2 : Row W2 g (m.set j (x ^^^ y) ++ tl) := by rw [hW2]; exact Hnext.out _ (by rw [UInt8.toNat_xor])
            have hgn2 : W2.heap[gn]? = some (.cells #[.int .u8 (n0.toNat : Int), .int .u8 (n1.toNat : Int), .int .u8 (y0.toNat : Int), .int .u8 (y1.toNat : Int), .int .u8 (y2.toNat : Int), .int .u8 (y3.toNat : Int)] 57 (0, 0)) := by rw [hW2]; exact blk_drew (blk_far hgn gnB _)
            have hb2 : Below w.heap.size w W2 := by rw [hW2]; exact below_drew1 (below_set hb hwB)
            rw [← hW2]
            obtain ⟨y', hyc3, hyi3⟩ := y_at n0 n1 y0 y1 y2 y3 hgn2 i Hlt.out
            obtain rfl : y' = y := Option.some.inj (hyi3.symm.trans Hyi.out)
            rw [← Hj2.out] at hyc3
            clear hcl hfr hyc hcl2 hyc2 hfr2 hgn hR hb hW2 hyi3 hx8 Hnext
            cases b
            · by_cases hy0 : y'.toNat = 0
              · have hyz : (y'.toNat : Int) = 0 := by omega
                rw [hyz] at hyc3
                have Hy0 := Lib.hid hy0; clear hy0 hyz
                go_wp2
                refine ⟨⟨i + 1, m.set j (x ^^^ y'), false, by have := Hlt.out; omega, by rw [List.length_set]; exact Hml.out, Hturn.out, flag_next Hlt.out Hyi.out Hfl.out ⟨fun _ => ⟨rfl, Hy0.out⟩, fun _ => rfl⟩, by go_num, rfl, (by first | exact hR2 | exact ⟨hR2.cell, hR2.free⟩), (by (with_reducible repeat (first | refine blk_drewN ?_ _ | refine blk_drew ?_)); exact hgn2), by repeat (first | (with_reducible first | exact hb2 | apply pw_below_drewN | apply below_drew1) | exact hb2)⟩, ?_⟩
                have := Hlt.out; rw [hi1]; simp only [intOf]; omega
              · have hyz : ((y'.toNat : Int) != 0) = true := by simp; intro h; exact hy0 (by simpa using h)
                have hyz2 : ((y'.toNat : Int) == 0) = false := by rw [Bool.eq_false_iff]; intro h; exact hy0 (by have := beq_iff_eq.1 h; omega)
                have Hy0 := Lib.hid hy0; clear hy0
                go_wp2
                refine ⟨⟨i + 1, m.set j (x ^^^ y'), true, by have := Hlt.out; omega, by rw [List.length_set]; exact Hml.out, Hturn.out, flag_next Hlt.out Hyi.out Hfl.out ⟨fun h => (by cases h), fun h => absurd h.2 Hy0.out⟩, by go_num, rfl, (by first | exact hR2 | exact ⟨hR2.cell, hR2.free⟩), (by (with_reducible repeat (first | refine blk_drewN ?_ _ | refine blk_drew ?_)); exact hgn2), by repeat (first | (with_reducible first | exact hb2 | apply pw_below_drewN | apply below_drew1) | exact hb2)⟩, ?_⟩
                have := Hlt.out; rw [hi1]; simp only [intOf]; omega
            · skip
              go_wp2
              refine ⟨⟨i + 1, m.set j (x ^^^ y'), true, by have := Hlt.out; omega, by rw [List.length_set]; exact Hml.out, Hturn.out, flag_next Hlt.out Hyi.out Hfl.out ⟨fun h => (by cases h), fun h => (by cases h.1)⟩, by go_num, rfl, (by first | exact hR2 | exact ⟨hR2.cell, hR2.free⟩), (by (with_reducible repeat (first | refine blk_drewN ?_ _ | refine blk_drew ?_)); exact hgn2), by repeat (first | (with_reducible first | exact hb2 | apply pw_below_drewN | apply below_drew1) | exact hb2)⟩, ?_⟩
              have := Hlt.out; rw [hi1]; simp only [intOf]; omega
          · have hi4 : decide ((i : Int) < 4) = false := decide_eq_false (by omega)
            obtain rfl : i = 4 := by omega
            have hle4 := Hle.out; have hfl4 := Hfl.out
            rw [show [y0, y1, y2, y3].take 4 = [y0, y1, y2, y3] from rfl] at hle4 hfl4
            obtain ⟨T, hT⟩ : ∃ T, T = txt (m ++ tl) := ⟨_, rfl⟩
            have HcvT := Lib.hid (fun w1 (h : Row w1 g (m ++ tl)) => (conv_row (C := C) (n := 256) (by rw [List.length_append, Hml.out, Htn.out]) h).trans (by rw [← hT]))
            have HposT := Lib.hid (show 0 < (m ++ tl).length by rw [List.length_append, Hml.out]; omega)
            have CT2 := Lib.hid fun W hG => dec_c T W hG
            have BKgn := Aside0.mk hgn; have HB := Aside0.mk hb
            clear Hfl Hcv CD hi hlt hgn hb hi4
            by_cases hd : Crc.leNum [y0, y1, y2, y3] = 0
            · obtain rfl : b = false := hfl4.2 hd
              have hm0 := Crc.burst4_same M0 m [y0, y1, y2, y3] k (by rw [Hml.out, HM0n.out]) hle4 hd
              have hTU : T = U := by rw [hT, hm0]; apply str_ext; rw [txt_data]; exact HL0.out
              rw [show decR T = (t, true) by rw [hTU]; exact dec_pos HI.out] at CT2; dsimp only at CT2
              clear hm0 hTU hle4 hfl4 hT hd
              go_wp2_with fail
              rw [HcvT.out _ hR]
              go_wp2_with fail
              with_reducible refine (CT2.out _ (Glob.below HG.out (by repeat (first | (with_reducible first | exact HB.out | apply below_alloc | apply pw_below_drewN | apply below_drew1 | refine below_set ?_ GEgn.out) | exact HB.out)))).mono ?_
              rintro e v40 ⟨rfl, hb⟩
              have n0_ := Aside0.mk (blk_below (g := gn) (o := .cells #[.int .u8 (n0.toNat : Int), .int .u8 (n1.toNat : Int), .int .u8 (y0.toNat : Int), .int .u8 (y1.toNat : Int), .int .u8 (y2.toNat : Int), .int .u8 (y3.toNat : Int)] 57 (0, 0)) (by (with_reducible repeat (first | refine blk_drewN ?_ _ | refine blk_drew ?_ | refine blk_alloc ?_ _)); exact BKgn.out) hb)
              have n1_ := Aside0.mk (below_step (by repeat (first | (with_reducible first | exact HB.out | apply below_alloc | apply pw_below_drewN | apply below_drew1 | refine below_set ?_ GEgn.out) | exact HB.out)) hb)
              clear BKgn
              clear HB
              have BKgn := n0_; clear n0_
              have HB := n1_; clear n1_
              (try clear hb)
              go_wp2_with (first | ((with_reducible refine gate_dst (N := 20) rfl ?_); (try (refine gate_guard (by rfl) ?_; dsimp only)); refine box_event ?hg (N := 20) ?hd (cs := #[.int .i64 0, .int .i64 0, .int .i64 0, .int .i64 0, .int .i64 0, .int .i64 0]) (t := 43) ?hr ?_; (case hd => rfl); (case hg => rfl); (case hr => first | (go_simp; done) | (go_simp; rfl)); intro ge hg v41 hbox hb; have n0_ := Aside0.mk (by rw [hg]; exact Nat.ne_of_lt (blk_lt (g := gn) (o := .cells #[.int .u8 (n0.toNat : Int), .int .u8 (n1.toNat : Int), .int .u8 (y0.toNat : Int), .int .u8 (y1.toNat : Int), .int .u8 (y2.toNat : Int), .int .u8 (y3.toNat : Int)] 57 (0, 0)) (by (with_reducible repeat (first | refine blk_drewN ?_ _ | refine blk_drew ?_ | refine blk_alloc ?_ _)); exact BKgn.out)) : gn ≠ ge); have n1_ := Aside0.mk (by rw [hg]; exact Nat.ne_of_gt (blk_lt (g := gn) (o := .cells #[.int .u8 (n0.toNat : Int), .int .u8 (n1.toNat : Int), .int .u8 (y0.toNat : Int), .int .u8 (y1.toNat : Int), .int .u8 (y2.toNat : Int), .int .u8 (y3.toNat : Int)] 57 (0, 0)) (by (with_reducible repeat (first | refine blk_drewN ?_ _ | refine blk_drew ?_ | refine blk_alloc ?_ _)); exact BKgn.out)) : ge ≠ gn); have n2_ := Aside0.mk (by rw [hg]; exact below_size (by repeat (first | (with_reducible first | exact HB.out | apply below_alloc | apply pw_below_drewN | apply below_drew1 | refine below_set ?_ GEgn.out) | exact HB.out)) : w.heap.size ≤ ge); have n3_ := Aside0.mk (blk_below (g := gn) (o := .cells #[.int .u8 (n0.toNat : Int), .int .u8 (n1.toNat : Int), .int .u8 (y0.toNat : Int), .int .u8 (y1.toNat : Int), .int .u8 (y2.toNat : Int), .int .u8 (y3.toNat : Int)] 57 (0, 0)) (by (with_reducible repeat (first | refine blk_drewN ?_ _ | refine blk_drew ?_ | refine blk_alloc ?_ _)); exact BKgn.out) hb); have n4_ := Aside0.mk (below_step (by repeat (first | (with_reducible first | exact HB.out | apply below_alloc | apply pw_below_drewN | apply below_drew1 | refine below_set ?_ GEgn.out) | exact HB.out)) hb); have n5_ := Aside0.mk hbox; clear BKgn; clear HB; have NBgn_ge := n0_; clear n0_; have NBge_gn := n1_; clear n1_; have GEge := n2_; clear n2_; have BKgn := n3_; clear n3_; have HB := n4_; clear n4_; have BKge := n5_; clear n5_; clear hb hbox hg; have hcz601 : v41.cell? ⟨ge, 0, none⟩ = some (.int .i64 0) := (blk_cell BKge.out 0).trans rfl; have hfz601 := blk_frozen BKge.out 0; have hcz602 : v41.cell? ⟨ge, 1, none⟩ = some (.int .i64 0) := (blk_cell BKge.out 1).trans rfl; have hfz602 := blk_frozen BKge.out 1; have hcz603 : v41.cell? ⟨ge, 2, none⟩ = some (.int .i64 0) := (blk_cell BKge.out 2).trans rfl; have hfz603 := blk_frozen BKge.out 2; have hcz604 : v41.cell? ⟨ge, 3, none⟩ = some (.int .i64 0) := (blk_cell BKge.out 3).trans rfl; have hfz604 := blk_frozen BKge.out 3; have hcz605 : v41.cell? ⟨ge, 4, none⟩ = some (.int .i64 0) := (blk_cell BKge.out 4).trans rfl; have hfz605 := blk_frozen BKge.out 4; have hcz606 : v41.cell? ⟨ge, 5, none⟩ = some (.int .i64 0) := (blk_cell BKge.out 5).trans rfl; have hfz606 := blk_frozen BKge.out 5) | ((with_reducible refine gate_store (t := 43) (p := 20) rfl ?_); refine store_event (t := 43) (p := 20) (v := ?vo_v42) (w1 := ((((((v41.setCell ⟨ge, 0, none⟩ (.int .i64 t.q)).setCell ⟨ge, 1, none⟩ (.int .i64 t.g)).setCell ⟨ge, 2, none⟩ (.int .i64 t.l)).setCell ⟨ge, 3, none⟩ (.int .i64 t.r)).setCell ⟨ge, 4, none⟩ (.int .i64 t.t)).setCell ⟨ge, 5, none⟩ (.int .i64 t.c))) ?hg ?ho ?hn ?hr ?_; (case ho => rfl); (case hg => rfl); (case hn => rfl); (case hr => first | (go_simp; done) | (go_simp; rfl)); intro v42 hw; have n0_ := Aside0.mk (by rw [hw]; (with_reducible repeat (first | refine blk_drewN ?_ _ | refine blk_drew ?_ | refine blk_alloc ?_ _)); refine blk_far ?_ NBgn_ge.out _; (with_reducible repeat (first | refine blk_drewN ?_ _ | refine blk_drew ?_ | refine blk_alloc ?_ _)); refine blk_far ?_ NBgn_ge.out _; (with_reducible repeat (first | refine blk_drewN ?_ _ | refine blk_drew ?_ | refine blk_alloc ?_ _)); refine blk_far ?_ NBgn_ge.out _; (with_reducible repeat (first | refine blk_drewN ?_ _ | refine blk_drew ?_ | refine blk_alloc ?_ _)); refine blk_far ?_ NBgn_ge.out _; (with_reducible repeat (first | refine blk_drewN ?_ _ | refine blk_drew ?_ | refine blk_alloc ?_ _)); refine blk_far ?_ NBgn_ge.out _; (with_reducible repeat (first | refine blk_drewN ?_ _ | refine blk_drew ?_ | refine blk_alloc ?_ _)); refine blk_far ?_ NBgn_ge.out _; (with_reducible repeat (first | refine blk_drewN ?_ _ | refine blk_drew ?_ | refine blk_alloc ?_ _)); exact BKgn.out : v42.heap[gn]? = some (.cells #[.int .u8 (n0.toNat : Int), .int .u8 (n1.toNat : Int), .int .u8 (y0.toNat : Int), .int .u8 (y1.toNat : Int), .int .u8 (y2.toNat : Int), .int .u8 (y3.toNat : Int)] 57 (0, 0))); have n1_ := Aside0.mk (by rw [hw]; (with_reducible repeat (first | refine blk_drewN ?_ _ | refine blk_drew ?_ | refine blk_alloc ?_ _)); refine blk_put (cs := #[.int .i64 t.q, .int .i64 t.g, .int .i64 t.l, .int .i64 t.r, .int .i64 t.t, .int .i64 0]) ?_ 5 _ rfl; (with_reducible repeat (first | refine blk_drewN ?_ _ | refine blk_drew ?_ | refine blk_alloc ?_ _)); refine blk_put (cs := #[.int .i64 t.q, .int .i64 t.g, .int .i64 t.l, .int .i64 t.r, .int .i64 0, .int .i64 0]) ?_ 4 _ rfl; (with_reducible repeat (first | refine blk_drewN ?_ _ | refine blk_drew ?_ | refine blk_alloc ?_ _)); refine blk_put (cs := #[.int .i64 t.q, .int .i64 t.g, .int .i64 t.l, .int .i64 0, .int .i64 0, .int .i64 0]) ?_ 3 _ rfl; (with_reducible repeat (first | refine blk_drewN ?_ _ | refine blk_drew ?_ | refine blk_alloc ?_ _)); refine blk_put (cs := #[.int .i64 t.q, .int .i64 t.g, .int .i64 0, .int .i64 0, .int .i64 0, .int .i64 0]) ?_ 2 _ rfl; (with_reducible repeat (first | refine blk_drewN ?_ _ | refine blk_drew ?_ | refine blk_alloc ?_ _)); refine blk_put (cs := #[.int .i64 t.q, .int .i64 0, .int .i64 0, .int .i64 0, .int .i64 0, .int .i64 0]) ?_ 1 _ rfl; (with_reducible repeat (first | refine blk_drewN ?_ _ | refine blk_drew ?_ | refine blk_alloc ?_ _)); refine blk_put (cs := #[.int .i64 0, .int .i64 0, .int .i64 0, .int .i64 0, .int .i64 0, .int .i64 0]) ?_ 0 _ rfl; (with_reducible repeat (first | refine blk_drewN ?_ _ | refine blk_drew ?_ | refine blk_alloc ?_ _)); exact BKge.out : v42.heap[ge]? = some (.cells #[.int .i64 t.q, .int .i64 t.g, .int .i64 t.l, .int .i64 t.r, .int .i64 t.t, .int .i64 t.c] 43 (0, 0))); have n2_ := Aside0.mk (by rw [hw]; repeat (first | (with_reducible first | exact HB.out | apply below_alloc | apply pw_below_drewN | apply below_drew1 | refine below_set ?_ GEgn.out | refine below_set ?_ GEge.out) | exact HB.out) : Below w.heap.size w v42); clear hcz601 hfz601 hcz602 hfz602 hcz603 hfz603 hcz604 hfz604 hcz605 hfz605 hcz606 hfz606; clear BKgn; clear BKge; clear HB; have BKgn := n0_; clear n0_; have BKge := n1_; clear n1_; have HB := n2_; clear n2_; clear hw))
              with_reducible refine (CW.out _ (Glob.below HG.out (by repeat (first | (with_reducible first | exact HB.out | apply below_alloc | apply pw_below_drewN | apply below_drew1 | refine below_set ?_ GEgn.out | refine below_set ?_ GEge.out) | exact HB.out)))).mono ?_
              rintro e v43 ⟨rfl, hb⟩
              have n0_ := Aside0.mk (blk_below (g := gn) (o := .cells #[.int .u8 (n0.toNat : Int), .int .u8 (n1.toNat : Int), .int .u8 (y0.toNat : Int), .int .u8 (y1.toNat : Int), .int .u8 (y2.toNat : Int), .int .u8 (y3.toNat : Int)] 57 (0, 0)) (by (with_reducible repeat (first | refine blk_drewN ?_ _ | refine blk_drew ?_ | refine blk_alloc ?_ _)); exact BKgn.out) hb)
              have n1_ := Aside0.mk (blk_below (g := ge) (o := .cells #[.int .i64 t.q, .int .i64 t.g, .int .i64 t.l, .int .i64 t.r, .int .i64 t.t, .int .i64 t.c] 43 (0, 0)) (by (with_reducible repeat (first | refine blk_drewN ?_ _ | refine blk_drew ?_ | refine blk_alloc ?_ _)); exact BKge.out) hb)
              have n2_ := Aside0.mk (below_step (by repeat (first | (with_reducible first | exact HB.out | apply below_alloc | apply pw_below_drewN | apply below_drew1 | refine below_set ?_ GEgn.out | refine below_set ?_ GEge.out) | exact HB.out)) hb)
              clear BKgn
              clear BKge
              clear HB
              have BKgn := n0_; clear n0_
              have BKge := n1_; clear n1_
              have HB := n2_; clear n2_
              (try clear hb)
              go_wp2_with fail
              go_ret
              exact ⟨rfl, by repeat (first | (with_reducible first | exact HB.out | apply below_alloc | apply pw_below_drewN | apply below_drew1 | refine below_set ?_ GEgn.out | refine below_set ?_ GEge.out) | exact HB.out)⟩
            · obtain rfl : b = true := by cases b; exact absurd (hfl4.1 rfl) hd; rfl
              have hn := torn_none HI.out (T := T) HL0.out HM0n.out Hml.out hT rfl (k := k) (by have := Hk.out; omega) hle4 hd
              rw [hn] at CT2; dsimp only [Sb.zero] at CT2
              clear hn hle4 hfl4 hT hd
              go_wp2_with fail
              rw [HcvT.out _ hR]
              go_wp2_with fail
              with_reducible refine (CT2.out _ (Glob.below HG.out (by repeat (first | (with_reducible first | exact HB.out | apply below_alloc | apply pw_below_drewN | apply below_drew1 | refine below_set ?_ GEgn.out) | exact HB.out)))).mono ?_
              rintro e v40 ⟨rfl, hb⟩
              have n0_ := Aside0.mk (blk_below (g := gn) (o := .cells #[.int .u8 (n0.toNat : Int), .int .u8 (n1.toNat : Int), .int .u8 (y0.toNat : Int), .int .u8 (y1.toNat : Int), .int .u8 (y2.toNat : Int), .int .u8 (y3.toNat : Int)] 57 (0, 0)) (by (with_reducible repeat (first | refine blk_drewN ?_ _ | refine blk_drew ?_ | refine blk_alloc ?_ _)); exact BKgn.out) hb)
              have n1_ := Aside0.mk (below_step (by repeat (first | (with_reducible first | exact HB.out | apply below_alloc | apply pw_below_drewN | apply below_drew1 | refine below_set ?_ GEgn.out) | exact HB.out)) hb)
              clear BKgn
              clear HB
              have BKgn := n0_; clear n0_
              have HB := n1_; clear n1_
              (try clear hb)
              go_wp2_with (first | ((with_reducible refine gate_dst (N := 20) rfl ?_); (try (refine gate_guard (by rfl) ?_; dsimp only)); refine box_event ?hg (N := 20) ?hd (cs := #[.int .i64 0, .int .i64 0, .int .i64 0, .int .i64 0, .int .i64 0, .int .i64 0]) (t := 43) ?hr ?_; (case hd => rfl); (case hg => rfl); (case hr => first | (go_simp; done) | (go_simp; rfl)); intro ge hg v41 hbox hb; have n0_ := Aside0.mk (by rw [hg]; exact Nat.ne_of_lt (blk_lt (g := gn) (o := .cells #[.int .u8 (n0.toNat : Int), .int .u8 (n1.toNat : Int), .int .u8 (y0.toNat : Int), .int .u8 (y1.toNat : Int), .int .u8 (y2.toNat : Int), .int .u8 (y3.toNat : Int)] 57 (0, 0)) (by (with_reducible repeat (first | refine blk_drewN ?_ _ | refine blk_drew ?_ | refine blk_alloc ?_ _)); exact BKgn.out)) : gn ≠ ge); have n1_ := Aside0.mk (by rw [hg]; exact Nat.ne_of_gt (blk_lt (g := gn) (o := .cells #[.int .u8 (n0.toNat : Int), .int .u8 (n1.toNat : Int), .int .u8 (y0.toNat : Int), .int .u8 (y1.toNat : Int), .int .u8 (y2.toNat : Int), .int .u8 (y3.toNat : Int)] 57 (0, 0)) (by (with_reducible repeat (first | refine blk_drewN ?_ _ | refine blk_drew ?_ | refine blk_alloc ?_ _)); exact BKgn.out)) : ge ≠ gn); have n2_ := Aside0.mk (by rw [hg]; exact below_size (by repeat (first | (with_reducible first | exact HB.out | apply below_alloc | apply pw_below_drewN | apply below_drew1 | refine below_set ?_ GEgn.out) | exact HB.out)) : w.heap.size ≤ ge); have n3_ := Aside0.mk (blk_below (g := gn) (o := .cells #[.int .u8 (n0.toNat : Int), .int .u8 (n1.toNat : Int), .int .u8 (y0.toNat : Int), .int .u8 (y1.toNat : Int), .int .u8 (y2.toNat : Int), .int .u8 (y3.toNat : Int)] 57 (0, 0)) (by (with_reducible repeat (first | refine blk_drewN ?_ _ | refine blk_drew ?_ | refine blk_alloc ?_ _)); exact BKgn.out) hb); have n4_ := Aside0.mk (below_step (by repeat (first | (with_reducible first | exact HB.out | apply below_alloc | apply pw_below_drewN | apply below_drew1 | refine below_set ?_ GEgn.out) | exact HB.out)) hb); have n5_ := Aside0.mk hbox; clear BKgn; clear HB; have NBgn_ge := n0_; clear n0_; have NBge_gn := n1_; clear n1_; have GEge := n2_; clear n2_; have BKgn := n3_; clear n3_; have HB := n4_; clear n4_; have BKge := n5_; clear n5_; clear hb hbox hg; have hcz601 : v41.cell? ⟨ge, 0, none⟩ = some (.int .i64 0) := (blk_cell BKge.out 0).trans rfl; have hfz601 := blk_frozen BKge.out 0; have hcz602 : v41.cell? ⟨ge, 1, none⟩ = some (.int .i64 0) := (blk_cell BKge.out 1).trans rfl; have hfz602 := blk_frozen BKge.out 1; have hcz603 : v41.cell? ⟨ge, 2, none⟩ = some (.int .i64 0) := (blk_cell BKge.out 2).trans rfl; have hfz603 := blk_frozen BKge.out 2; have hcz604 : v41.cell? ⟨ge, 3, none⟩ = some (.int .i64 0) := (blk_cell BKge.out 3).trans rfl; have hfz604 := blk_frozen BKge.out 3; have hcz605 : v41.cell? ⟨ge, 4, none⟩ = some (.int .i64 0) := (blk_cell BKge.out 4).trans rfl; have hfz605 := blk_frozen BKge.out 4; have hcz606 : v41.cell? ⟨ge, 5, none⟩ = some (.int .i64 0) := (blk_cell BKge.out 5).trans rfl; have hfz606 := blk_frozen BKge.out 5) | ((with_reducible refine gate_store (t := 43) (p := 20) rfl ?_); refine store_event (t := 43) (p := 20) (v := ?vo_v42) (w1 := ((((((v41.setCell ⟨ge, 0, none⟩ (.int .i64 0)).setCell ⟨ge, 1, none⟩ (.int .i64 0)).setCell ⟨ge, 2, none⟩ (.int .i64 0)).setCell ⟨ge, 3, none⟩ (.int .i64 0)).setCell ⟨ge, 4, none⟩ (.int .i64 0)).setCell ⟨ge, 5, none⟩ (.int .i64 0))) ?hg ?ho ?hn ?hr ?_; (case ho => rfl); (case hg => rfl); (case hn => rfl); (case hr => first | (go_simp; done) | (go_simp; rfl)); intro v42 hw; have n0_ := Aside0.mk (by rw [hw]; (with_reducible repeat (first | refine blk_drewN ?_ _ | refine blk_drew ?_ | refine blk_alloc ?_ _)); refine blk_far ?_ NBgn_ge.out _; (with_reducible repeat (first | refine blk_drewN ?_ _ | refine blk_drew ?_ | refine blk_alloc ?_ _)); refine blk_far ?_ NBgn_ge.out _; (with_reducible repeat (first | refine blk_drewN ?_ _ | refine blk_drew ?_ | refine blk_alloc ?_ _)); refine blk_far ?_ NBgn_ge.out _; (with_reducible repeat (first | refine blk_drewN ?_ _ | refine blk_drew ?_ | refine blk_alloc ?_ _)); refine blk_far ?_ NBgn_ge.out _; (with_reducible repeat (first | refine blk_drewN ?_ _ | refine blk_drew ?_ | refine blk_alloc ?_ _)); refine blk_far ?_ NBgn_ge.out _; (with_reducible repeat (first | refine blk_drewN ?_ _ | refine blk_drew ?_ | refine blk_alloc ?_ _)); refine blk_far ?_ NBgn_ge.out _; (with_reducible repeat (first | refine blk_drewN ?_ _ | refine blk_drew ?_ | refine blk_alloc ?_ _)); exact BKgn.out : v42.heap[gn]? = some (.cells #[.int .u8 (n0.toNat : Int), .int .u8 (n1.toNat : Int), .int .u8 (y0.toNat : Int), .int .u8 (y1.toNat : Int), .int .u8 (y2.toNat : Int), .int .u8 (y3.toNat : Int)] 57 (0, 0))); have n1_ := Aside0.mk (by rw [hw]; (with_reducible repeat (first | refine blk_drewN ?_ _ | refine blk_drew ?_ | refine blk_alloc ?_ _)); refine blk_put (cs := #[.int .i64 0, .int .i64 0, .int .i64 0, .int .i64 0, .int .i64 0, .int .i64 0]) ?_ 5 _ rfl; (with_reducible repeat (first | refine blk_drewN ?_ _ | refine blk_drew ?_ | refine blk_alloc ?_ _)); refine blk_put (cs := #[.int .i64 0, .int .i64 0, .int .i64 0, .int .i64 0, .int .i64 0, .int .i64 0]) ?_ 4 _ rfl; (with_reducible repeat (first | refine blk_drewN ?_ _ | refine blk_drew ?_ | refine blk_alloc ?_ _)); refine blk_put (cs := #[.int .i64 0, .int .i64 0, .int .i64 0, .int .i64 0, .int .i64 0, .int .i64 0]) ?_ 3 _ rfl; (with_reducible repeat (first | refine blk_drewN ?_ _ | refine blk_drew ?_ | refine blk_alloc ?_ _)); refine blk_put (cs := #[.int .i64 0, .int .i64 0, .int .i64 0, .int .i64 0, .int .i64 0, .int .i64 0]) ?_ 2 _ rfl; (with_reducible repeat (first | refine blk_drewN ?_ _ | refine blk_drew ?_ | refine blk_alloc ?_ _)); refine blk_put (cs := #[.int .i64 0, .int .i64 0, .int .i64 0, .int .i64 0, .int .i64 0, .int .i64 0]) ?_ 1 _ rfl; (with_reducible repeat (first | refine blk_drewN ?_ _ | refine blk_drew ?_ | refine blk_alloc ?_ _)); refine blk_put (cs := #[.int .i64 0, .int .i64 0, .int .i64 0, .int .i64 0, .int .i64 0, .int .i64 0]) ?_ 0 _ rfl; (with_reducible repeat (first | refine blk_drewN ?_ _ | refine blk_drew ?_ | refine blk_alloc ?_ _)); exact BKge.out : v42.heap[ge]? = some (.cells #[.int .i64 0, .int .i64 0, .int .i64 0, .int .i64 0, .int .i64 0, .int .i64 0] 43 (0, 0))); have n2_ := Aside0.mk (by rw [hw]; repeat (first | (with_reducible first | exact HB.out | apply below_alloc | apply pw_below_drewN | apply below_drew1 | refine below_set ?_ GEgn.out | refine below_set ?_ GEge.out) | exact HB.out) : Below w.heap.size w v42); clear hcz601 hfz601 hcz602 hfz602 hcz603 hfz603 hcz604 hfz604 hcz605 hfz605 hcz606 hfz606; clear BKgn; clear BKge; clear HB; have BKgn := n0_; clear n0_; have BKge := n1_; clear n1_; have HB := n2_; clear n2_; clear hw))
              with_reducible refine (CW.out _ (Glob.below HG.out (by repeat (first | (with_reducible first | exact HB.out | apply below_alloc | apply pw_below_drewN | apply below_drew1 | refine below_set ?_ GEgn.out | refine below_set ?_ GEge.out) | exact HB.out)))).mono ?_
              rintro e v43 ⟨rfl, hb⟩
              have n0_ := Aside0.mk (blk_below (g := gn) (o := .cells #[.int .u8 (n0.toNat : Int), .int .u8 (n1.toNat : Int), .int .u8 (y0.toNat : Int), .int .u8 (y1.toNat : Int), .int .u8 (y2.toNat : Int), .int .u8 (y3.toNat : Int)] 57 (0, 0)) (by (with_reducible repeat (first | refine blk_drewN ?_ _ | refine blk_drew ?_ | refine blk_alloc ?_ _)); exact BKgn.out) hb)
              have n1_ := Aside0.mk (blk_below (g := ge) (o := .cells #[.int .i64 0, .int .i64 0, .int .i64 0, .int .i64 0, .int .i64 0, .int .i64 0] 43 (0, 0)) (by (with_reducible repeat (first | refine blk_drewN ?_ _ | refine blk_drew ?_ | refine blk_alloc ?_ _)); exact BKge.out) hb)
              have n2_ := Aside0.mk (below_step (by repeat (first | (with_reducible first | exact HB.out | apply below_alloc | apply pw_below_drewN | apply below_drew1 | refine below_set ?_ GEgn.out | refine below_set ?_ GEge.out) | exact HB.out)) hb)
              clear BKgn
              clear BKge
              clear HB
              have BKgn := n0_; clear n0_
              have BKge := n1_; clear n1_
              have HB := n2_; clear n2_
              (try clear hb)
              go_wp2_with fail
              go_ret
              exact ⟨rfl, by repeat (first | (with_reducible first | exact HB.out | apply below_alloc | apply pw_below_drewN | apply below_drew1 | refine below_set ?_ GEgn.out | refine below_set ?_ GEge.out) | exact HB.out)⟩
end Go.Proofs.YtiajgmocmnjijaaDoor.SupN
end

section
/-
  SuperTorn: the walk in a row's letters.
-/
namespace Go.Proofs.YtiajgmocmnjijaaDoor.SupN
open Go.RowKit Go.Proofs.YtiajgmocmnjijaaDoor.SumH
theorem walkF (a0 b0 c0 e0 f0 g0 a1 b1 c1 e1 f1 g1 : Int) (a2 b2 c2 e2 f2 g2 : UInt8) (w : World) (hG : Glob w) :
    Calls Tryd.prog 7 #[.agg #[.int .i64 a0, .int .i64 b0, .int .i64 c0, .int .i64 e0, .int .i64 f0, .int .i64 g0], .agg #[.int .i64 a1, .int .i64 b1, .int .i64 c1, .int .i64 e1, .int .i64 f1, .int .i64 g1], .agg #[.int .u8 (a2.toNat : Int), .int .u8 (b2.toNat : Int), .int .u8 (c2.toNat : Int), .int .u8 (e2.toNat : Int), .int .u8 (f2.toNat : Int), .int .u8 (g2.toNat : Int)]] w fun e w' => e = .returned (.bool true) ∧ Below w.heap.size w w' :=
  walk ⟨a0, b0, c0, e0, f0, g0⟩ ⟨a1, b1, c1, e1, f1, g1⟩ a2 b2 c2 e2 f2 g2 w hG
end Go.Proofs.YtiajgmocmnjijaaDoor.SupN
end
