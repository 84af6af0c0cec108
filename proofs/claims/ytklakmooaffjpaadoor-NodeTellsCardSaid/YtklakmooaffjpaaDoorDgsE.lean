import Derived.Test.YtklakmooaffjpaaDoorDgsC
import Derived.Test.YtklakmooaffjpaaDoorDgsL
import Derived.Test.YtklakmooaffjpaaDoorDgsD
section
/-
  The reference's Step, walked by hand.
-/
namespace Go.Proofs.YtklakmooaffjpaaDoor.DgsT
open Go.RowKit Go.Proofs.YtklakmooaffjpaaDoorW.PrintWords Go.Proofs.YtklakmooaffjpaaDoorW.PrintMore Go.Proofs.YtklakmooaffjpaaDoor.Cm Go.Proofs.YtklakmooaffjpaaDoor.Str Go.Proofs.YtklakmooaffjpaaDoor.DgsP Go.Proofs.YtklakmooaffjpaaDoor.DgsH Go.Proofs.YtklakmooaffjpaaDoor.DgsS Go.Proofs.YtklakmooaffjpaaDoor.DgsB Go.Proofs.YtklakmooaffjpaaDoor.DgsR Go.Proofs.YtklakmooaffjpaaDoor.PDgs
set_option linter.unusedVariables false
/-- A word of four bytes. -/
def word4 (b0 b1 b2 b3 : Nat) : Nat := ((((b0 <<< 24) % M) ||| ((b1 <<< 16) % M)) ||| ((b2 <<< 8) % M)) ||| b3
theorem word4_cast (b0 b1 b2 b3 : Nat) (h0 : b0 < 256) (h1 : b1 < 256) (h2 : b2 < 256) (h3 : b3 < 256) : bits .or .u32 (bits .or .u32 (bits .or .u32 ((b0 : Int) * 16777216) ((b1 : Int) * 65536)) ((b2 : Int) * 256)) (b3 : Int) = (word4 b0 b1 b2 b3 : Nat) := by
  have o0 : (b0 : Int) * 16777216 = (b0 : Int) * 16777216 % 4294967296 := by omega
  have o1 : (b1 : Int) * 65536 = (b1 : Int) * 65536 % 4294967296 := by omega
  have o2 : (b2 : Int) * 256 = (b2 : Int) * 256 % 4294967296 := by omega
  rw [o0, o1, o2]
  have e0 := shl_cast b0 24
  have e1 := shl_cast b1 16
  have e2 := shl_cast b2 8
  rw [show (2 : Int) ^ 24 = 16777216 from rfl] at e0
  rw [show (2 : Int) ^ 16 = 65536 from rfl] at e1
  rw [show (2 : Int) ^ 8 = 256 from rfl] at e2
  have m : ∀ x, x % M < M := fun x => Nat.mod_lt _ (by decide)
  rw [e0, e1, e2, bits_or _ _ (m _) (m _), bits_or _ _ (or_lt _ _ (m _) (m _)) (m _), bits_or _ _ (or_lt _ _ (or_lt _ _ (m _) (m _)) (m _)) (by rw [M_eq]; omega)]
  rfl
theorem word4_lt (b0 b1 b2 b3 : Nat) (h3 : b3 < 256) : word4 b0 b1 b2 b3 < M := by
  have m : ∀ x, x % M < M := fun x => Nat.mod_lt _ (by decide)
  exact or_lt _ _ (or_lt _ _ (or_lt _ _ (m _) (m _)) (m _)) (by rw [M_eq]; omega)
/-- The words, as the reference lays them. -/
def schR (bs : List Nat) : Nat → List Nat
  | 0 => List.replicate 64 0
  | i + 1 => (schR bs i).set i (if i < 16 then word4 (bs.getD (4 * i) 0) (bs.getD (4 * i + 1) 0) (bs.getD (4 * i + 2) 0) (bs.getD (4 * i + 3) 0) else nxt ((schR bs i).getD (i - 16) 0) ((schR bs i).getD (i - 7) 0) ((schR bs i).getD (i - 15) 0) ((schR bs i).getD (i - 2) 0))
theorem schR_len (bs : List Nat) : ∀ i, (schR bs i).length = 64
  | 0 => by simp [schR]
  | i + 1 => by simp [schR, schR_len bs i]
theorem schR_lt (bs : List Nat) (hb : ∀ x ∈ bs, x < 256) : ∀ i, ∀ x ∈ schR bs i, x < M
  | 0 => fun x hx => by rw [List.eq_of_mem_replicate hx]; decide
  | i + 1 => fun x hx => by
    rcases List.mem_or_eq_of_mem_set hx with h | rfl
    · exact schR_lt bs hb i x h
    · split
      · exact word4_lt _ _ _ _ (getD_lt hb (by decide) _)
      · exact nxt_lt _ _ _ _
theorem nxtR_cast (a b x y : Nat) (hx : x < M) (hy : y < M) : ((a : Int) + bits .xor .u32 (bits .xor .u32 (rr x 7 : Int) (rr x 18 : Int)) ((x : Int) / 8) + b + bits .xor .u32 (bits .xor .u32 (rr y 17 : Int) (rr y 19 : Int)) ((y : Int) / 1024)) % 4294967296 = (nxt a b x y : Int) := by
  rw [← nxt_cast a b x y hx hy]
  congr 1
  omega
/-- The rounds, with whatever constants. -/
def stk (ks hs ws : List Nat) : Nat → List Nat
  | 0 => hs
  | i + 1 => rnd (stk ks hs ws i) (ks.getD i 0) (ws.getD i 0)
theorem stk_lt (ks hs ws : List Nat) (h : ∀ x ∈ hs, x < M) : ∀ i, ∀ x ∈ stk ks hs ws i, x < M
  | 0 => h
  | i + 1 => rnd_lt _ _ _ (stk_lt ks hs ws h i)
theorem stk_len (ks hs ws : List Nat) (h : hs.length = 8) : ∀ i, (stk ks hs ws i).length = 8
  | 0 => h
  | _ + 1 => rfl
theorem stk_kt (hs ws : List Nat) : ∀ i, stk kt hs ws i = st hs ws i
  | 0 => rfl
  | i + 1 => by rw [stk, st, stk_kt hs ws i]
theorem turn_c (x n : Nat) (w : World) (hx : x < M) (hn : 0 < n ∧ n < 32) : Calls Tryd.prog 68 #[.int .u32 (x : Int), .int .u64 (n : Int)] w fun e w' => e = .returned (.int .u32 (rr x n : Int)) ∧ w' = w := r4turn.same _ _ _ w (DgsL.turn_eq x n hx hn)
/-- One step, with whatever constants, as the reference goes. -/
def stepR (ks hs bs : List Nat) : List Nat := fin hs (stk ks hs (schR bs 64) 64) 8
set_option maxRecDepth 100000 in
set_option maxHeartbeats 8000000 in
theorem step_c (hs bs ks : List Nat) (hl : hs.length = 8) (hh : ∀ x ∈ hs, x < M) (bl : bs.length = 64) (hb : ∀ x ∈ bs, x < 256) (kl : ks.length = 64) (w : World) : Calls Tryd.prog 60 #[.agg (vals .u32 hs), .agg (vals .u8 bs), .agg (vals .u32 ks)] w fun e w' => e = .returned (.agg (vals .u32 (stepR ks hs bs))) ∧ Below w.heap.size w w' := by
  have HL := Lib.hid hl
  have BL := Lib.hid bl
  have KL := Lib.hid kl
  have HB := Lib.hid hb
  have HH := Lib.hid hh
  clear hl bl kl hb hh
  obtain ⟨B, hB⟩ : ∃ B, B = w.heap.size := ⟨_, rfl⟩
  go_enter Tryd.func60, Tryd.ntmps60
  go_wp2_with fail
  generalize hW : (World.alloc (World.alloc (World.alloc (World.alloc (World.alloc w _) _) _) _) _) = W
  have hb0 : Blk .u32 W B 60 hs := by rw [← hW, hB]; exact bA (bA (bA (bA (blk_new w _) _) _) _) _
  have hb1 : Blk .u8 W (B + 1) 62 bs := by rw [← hW]; exact bA (bA (bA (blk_new' _ _ _ (by simp [hB])) _) _) _
  have hb2 : Blk .u32 W (B + 1 + 1) 81 ks := by rw [← hW]; exact bA (bA (blk_new' _ _ _ (by simp [hB])) _) _
  have hb3 : Blk .u32 W (B + 1 + 1 + 1) 60 (List.replicate 8 0) := by rw [← hW]; exact bA (blk_new' _ _ _ (by simp [hB])) _
  have hb4 : Blk .u32 W (B + 1 + 1 + 1 + 1) 81 (List.replicate 64 0) := by rw [← hW]; exact blk_new' _ _ _ (by simp [hB])
  have hbel : Below B w W := by rw [← hW, hB]; exact wA (wA (wA (wA (wA (Below.refl _ _) _) _) _) _) _
  have hsz : B + 5 ≤ W.heap.size := by rw [← hW, hB]; simp
  rw [← hB]
  have HBs := Lib.hid hB
  clear hB hW
  obtain ⟨B1, e1⟩ : ∃ x, x = B + 1 := ⟨_, rfl⟩
  rw [← e1] at hb1 hb2 hb3 hb4 ⊢
  obtain ⟨B2, e2⟩ : ∃ x, x = B1 + 1 := ⟨_, rfl⟩
  rw [← e2] at hb2 hb3 hb4 ⊢
  obtain ⟨B3, e3⟩ : ∃ x, x = B2 + 1 := ⟨_, rfl⟩
  rw [← e3] at hb3 hb4 ⊢
  obtain ⟨B4, e4⟩ : ∃ x, x = B3 + 1 := ⟨_, rfl⟩
  rw [← e4] at hb4 ⊢
  have l1 : B < B1 := by omega
  have l2 : B1 < B2 := by omega
  have l3 : B2 < B3 := by omega
  have l4 : B3 < B4 := by omega
  have hsz' : B4 < W.heap.size := by omega
  clear hsz e1 e2 e3 e4
  go_loopw [8] (fun v8 w' => ∃ i, i ≤ 64 ∧ v8 = .int .i64 (i : Nat) ∧ A0_ (Blk .u32 w' B 60 hs) ∧ A0_ (Blk .u8 w' B1 62 bs) ∧ A0_ (Blk .u32 w' B2 81 ks) ∧ A0_ (Blk .u32 w' B3 60 (List.replicate 8 0)) ∧ A0_ (Blk .u32 w' B4 81 (schR bs i)) ∧ A0_ (Below B w w') ∧ B4 < w'.heap.size) (fun v8 _ => (64 - intOf v8).toNat)
  case atStart => exact ⟨0, by omega, rfl, ⟨hb0⟩, ⟨hb1⟩, ⟨hb2⟩, ⟨hb3⟩, ⟨hb4⟩, ⟨hbel⟩, hsz'⟩
  case round =>
    clear hb0 hb1 hb2 hb3 hb4 hbel hsz'
    obtain ⟨i, hi, rfl, k0, k1, k2, k3, k4, kB, ksz⟩ := hrel
    by_cases hlt : i < 64
    · have p1 : decide ((i : Int) < 64) = true := decide_eq_true (by omega)
      obtain ⟨l, hle⟩ : ∃ l, l = schR bs i := ⟨_, rfl⟩
      have hll : l.length = 64 := by rw [hle]; exact schR_len bs i
      have hlM : ∀ x ∈ l, x < M := by rw [hle]; exact schR_lt bs HB.out i
      obtain ⟨r, hr⟩ : ∃ r, r = schR bs (i + 1) := ⟨_, rfl⟩
      rw [← hle] at k4
      have fi := k4.out.free i
      by_cases h16 : i < 16
      · have p2 : decide ((i : Int) < 16) = true := decide_eq_true (by omega)
        obtain ⟨m0, hm0⟩ : ∃ m, m = 4 * i := ⟨_, rfl⟩
        obtain ⟨m1, hm1⟩ : ∃ m, m = 4 * i + 1 := ⟨_, rfl⟩
        obtain ⟨m2, hm2⟩ : ∃ m, m = 4 * i + 2 := ⟨_, rfl⟩
        obtain ⟨m3, hm3⟩ : ∃ m, m = 4 * i + 3 := ⟨_, rfl⟩
        have c0 := k1.out.cell m0 (by rw [BL.out]; omega)
        have c1 := k1.out.cell m1 (by rw [BL.out]; omega)
        have c2 := k1.out.cell m2 (by rw [BL.out]; omega)
        have c3 := k1.out.cell m3 (by rw [BL.out]; omega)
        have ci := k4.out.cell i (by omega)
        have hb0 := getD_lt HB.out (by decide) m0
        have hb1 := getD_lt HB.out (by decide) m1
        have hb2 := getD_lt HB.out (by decide) m2
        have hb3 := getD_lt HB.out (by decide) m3
        have es : l.set i (word4 (bs.getD m0 0) (bs.getD m1 0) (bs.getD m2 0) (bs.getD m3 0)) = r := by rw [hr, schR, ← hle, if_pos h16, hm0, hm1, hm2, hm3]
        obtain ⟨x0, hx0⟩ : ∃ a, a = bs.getD m0 0 := ⟨_, rfl⟩
        obtain ⟨x1, hx1⟩ : ∃ a, a = bs.getD m1 0 := ⟨_, rfl⟩
        obtain ⟨x2, hx2⟩ : ∃ a, a = bs.getD m2 0 := ⟨_, rfl⟩
        obtain ⟨x3, hx3⟩ : ∃ a, a = bs.getD m3 0 := ⟨_, rfl⟩
        obtain ⟨z, hz⟩ : ∃ a, a = l.getD i 0 := ⟨_, rfl⟩
        rw [← hx0] at c0 es hb0
        rw [← hx1] at c1 es hb1
        rw [← hx2] at c2 es hb2
        rw [← hx3] at c3 es hb3
        rw [← hz] at ci
        have q0 : 4 * (i : Int) = (m0 : Int) := by omega
        have q1 : (m0 : Int) + 1 = (m1 : Int) := by omega
        have q2 : (m0 : Int) + 2 = (m2 : Int) := by omega
        have q3 : (m0 : Int) + 3 = (m3 : Int) := by omega
        have b0 : m0 < 64 := by omega
        have b1 : m1 < 64 := by omega
        have b2 : m2 < 64 := by omega
        have b3 : m3 < 64 := by omega
        have b0' : (m0 : Int) < 64 := by omega
        have b1' : (m1 : Int) < 64 := by omega
        have b2' : (m2 : Int) < 64 := by omega
        have b3' : (m3 : Int) < 64 := by omega
        have b4 : (i : Int) < 64 := by omega
        have s0 : IntKind.i64.wrap (m0 : Int) = (m0 : Int) := by rw [IntKind.wrap_i64]; omega
        have s1 : IntKind.i64.wrap (m1 : Int) = (m1 : Int) := by rw [IntKind.wrap_i64]; omega
        have s2 : IntKind.i64.wrap (m2 : Int) = (m2 : Int) := by rw [IntKind.wrap_i64]; omega
        have s3 : IntKind.i64.wrap (m3 : Int) = (m3 : Int) := by rw [IntKind.wrap_i64]; omega
        have Es := Lib.hid es
        have Hr := Lib.hid hr
        have Hll := Lib.hid hll
        clear es hr hll hlM hm0 hm1 hm2 hm3 hx0 hx1 hx2 hx3 hz hle
        go_wp2
        refine wp_region_still_tail 31 (by kernel_rfl) (by kernel_rfl) ?_
        simp only [List.take_succ_cons, List.take_zero, List.drop_succ_cons, List.drop_zero]
        repeat still_step
        refine wpStill_nil ?_
        change wpList _ _ _ _ _ wr.drew
        replace ci : wr.drew.cell? _ = _ := ci
        replace fi : wr.drew.frozen? _ = _ := fi
        have K0 : Hid (Blk .u32 wr.drew B 60 hs) := Lib.hid k0.out
        have K1 : Hid (Blk .u8 wr.drew B1 62 bs) := Lib.hid k1.out
        have K2 : Hid (Blk .u32 wr.drew B2 81 ks) := Lib.hid k2.out
        have K3 : Hid (Blk .u32 wr.drew B3 60 (List.replicate 8 0)) := Lib.hid k3.out
        have K4 : Hid (Blk .u32 wr.drew B4 81 l) := Lib.hid k4.out
        have KB : Hid (Below B w wr.drew) := Lib.hid kB.out.drew
        have KS : Hid (B4 < wr.drew.heap.size) := Lib.hid ksz
        clear c0 c1 c2 c3 k0 k1 k2 k3 k4 kB ksz
        generalize wr.drew = w3 at ci fi K0 K1 K2 K3 K4 KB KS ⊢
        go_wp2
        refine ⟨?rel, ?mea⟩
        case rel =>
          refine ⟨i + 1, hlt, by simp, ⟨K0.out.far _ _ (by show B ≠ B4; omega)⟩, ⟨K1.out.far _ _ (by show B1 ≠ B4; omega)⟩, ⟨K2.out.far _ _ (by show B2 ≠ B4; omega)⟩, ⟨K3.out.far _ _ (by show B3 ≠ B4; omega)⟩, ⟨?_⟩, ⟨KB.out.setCell (by show B ≤ B4; omega) _⟩, by simpa using KS.out⟩
          rw [← Hr.out, ← Es.out]
          exact K4.out.put' i _ (by rw [Hll.out]; exact hlt) _ (word4_cast x0 x1 x2 x3 hb0 hb1 hb2 hb3)
        case mea => simp [intOf]; omega
      · have p2 : decide ((i : Int) < 16) = false := decide_eq_false (by omega)
        obtain ⟨n, hn⟩ : ∃ m, m = i - 16 := ⟨_, rfl⟩
        obtain ⟨m9, h9⟩ : ∃ m, m = i - 7 := ⟨_, rfl⟩
        obtain ⟨m1, h1'⟩ : ∃ m, m = i - 15 := ⟨_, rfl⟩
        obtain ⟨m14, h14⟩ : ∃ m, m = i - 2 := ⟨_, rfl⟩
        have ca := k4.out.cell n (by omega)
        have cb := k4.out.cell m9 (by omega)
        have cx := k4.out.cell m1 (by omega)
        have cy := k4.out.cell m14 (by omega)
        have ci := k4.out.cell i (by omega)
        have hx := getD_lt hlM (by decide) m1
        have hy := getD_lt hlM (by decide) m14
        have es : l.set i (nxt (l.getD n 0) (l.getD m9 0) (l.getD m1 0) (l.getD m14 0)) = r := by rw [hr, schR, ← hle, if_neg h16, hn, h9, h1', h14]
        obtain ⟨a, ha⟩ : ∃ a, a = l.getD n 0 := ⟨_, rfl⟩
        obtain ⟨b, hb⟩ : ∃ a, a = l.getD m9 0 := ⟨_, rfl⟩
        obtain ⟨x, hxe⟩ : ∃ a, a = l.getD m1 0 := ⟨_, rfl⟩
        obtain ⟨y, hye⟩ : ∃ a, a = l.getD m14 0 := ⟨_, rfl⟩
        obtain ⟨z, hze⟩ : ∃ a, a = l.getD i 0 := ⟨_, rfl⟩
        rw [← ha] at ca es
        rw [← hb] at cb es
        rw [← hxe] at cx es hx
        rw [← hye] at cy es hy
        rw [← hze] at ci
        have r16 : (i : Int) - 16 = (n : Int) := by omega
        have r7 : (i : Int) - 7 = (m9 : Int) := by omega
        have r15 : (i : Int) - 15 = (m1 : Int) := by omega
        have r2 : (i : Int) - 2 = (m14 : Int) := by omega
        have b1 : m9 < 64 := by omega
        have b1' : (m9 : Int) < 64 := by omega
        have b2 : m1 < 64 := by omega
        have b2' : (m1 : Int) < 64 := by omega
        have b3 : m14 < 64 := by omega
        have b3' : (m14 : Int) < 64 := by omega
        have b4 : i < 64 := by omega
        have b4' : (i : Int) < 64 := by omega
        have b5 : n < 64 := by omega
        have b5' : (n : Int) < 64 := by omega
        have s1 : IntKind.i64.wrap (m9 : Int) = (m9 : Int) := by rw [IntKind.wrap_i64]; omega
        have s2 : IntKind.i64.wrap (m1 : Int) = (m1 : Int) := by rw [IntKind.wrap_i64]; omega
        have s3 : IntKind.i64.wrap (m14 : Int) = (m14 : Int) := by rw [IntKind.wrap_i64]; omega
        have s4 : IntKind.i64.wrap (n : Int) = (n : Int) := by rw [IntKind.wrap_i64]; omega
        have Es := Lib.hid es
        have Hll := Lib.hid hll
        have Hr := Lib.hid hr
        have Hx := Lib.hid hx
        have Hy := Lib.hid hy
        have T7 := Lib.hid (show ∀ W, Calls Tryd.prog 68 #[.int .u32 (x : Int), .int .u64 7] W fun e w' => e = .returned (.int .u32 (rr x 7 : Int)) ∧ w' = W from fun W => turn_c x 7 W hx (by decide))
        have T18 := Lib.hid (show ∀ W, Calls Tryd.prog 68 #[.int .u32 (x : Int), .int .u64 18] W fun e w' => e = .returned (.int .u32 (rr x 18 : Int)) ∧ w' = W from fun W => turn_c x 18 W hx (by decide))
        have T17 := Lib.hid (show ∀ W, Calls Tryd.prog 68 #[.int .u32 (y : Int), .int .u64 17] W fun e w' => e = .returned (.int .u32 (rr y 17 : Int)) ∧ w' = W from fun W => turn_c y 17 W hy (by decide))
        have T19 := Lib.hid (show ∀ W, Calls Tryd.prog 68 #[.int .u32 (y : Int), .int .u64 19] W fun e w' => e = .returned (.int .u32 (rr y 19 : Int)) ∧ w' = W from fun W => turn_c y 19 W hy (by decide))
        clear es hr hll hlM hn h9 h1' h14 ha hb hxe hye hze hx hy hle h16
        go_wp2
        refine wp_region_still_lit (by kernel_rfl) (by kernel_rfl) ?_
        repeat still_step
        refine wpStill_nil ?_
        change Exit.then _ _ Exit.normal _ wr.drew
        replace ca : wr.drew.cell? _ = _ := ca
        replace cb : wr.drew.cell? _ = _ := cb
        replace ci : wr.drew.cell? _ = _ := ci
        replace fi : wr.drew.frozen? _ = _ := fi
        have K0 : Hid (Blk .u32 wr.drew B 60 hs) := Lib.hid k0.out
        have K1 : Hid (Blk .u8 wr.drew B1 62 bs) := Lib.hid k1.out
        have K2 : Hid (Blk .u32 wr.drew B2 81 ks) := Lib.hid k2.out
        have K3 : Hid (Blk .u32 wr.drew B3 60 (List.replicate 8 0)) := Lib.hid k3.out
        have K4 : Hid (Blk .u32 wr.drew B4 81 l) := Lib.hid k4.out
        have KB : Hid (Below B w wr.drew) := Lib.hid kB.out.drew
        have KS : Hid (B4 < wr.drew.heap.size) := Lib.hid ksz
        clear cx cy k0 k1 k2 k3 k4 kB ksz
        generalize wr.drew = w2 at ca cb ci fi K0 K1 K2 K3 K4 KB KS ⊢
        go_wp2
        refine wp_region_still_tail 29 (by kernel_rfl) (by kernel_rfl) ?_
        simp only [List.take_succ_cons, List.take_zero, List.drop_succ_cons, List.drop_zero]
        repeat (first | still_step | (refine wpStill_step (fun K hK => ?_); go_simp; (first | with_reducible refine ⟨_, T7.out _, hK _ ?_⟩ | with_reducible refine ⟨_, T18.out _, hK _ ?_⟩ | with_reducible refine ⟨_, T17.out _, hK _ ?_⟩ | with_reducible refine ⟨_, T19.out _, hK _ ?_⟩); clear hK K))
        refine wpStill_nil ?_
        change wpList _ _ _ _ _ w2.drew
        replace ci : w2.drew.cell? _ = _ := ci
        replace fi : w2.drew.frozen? _ = _ := fi
        clear ca cb T7 T18 T17 T19
        replace K0 : Hid (Blk .u32 w2.drew B 60 hs) := Lib.hid K0.out
        replace K1 : Hid (Blk .u8 w2.drew B1 62 bs) := Lib.hid K1.out
        replace K2 : Hid (Blk .u32 w2.drew B2 81 ks) := Lib.hid K2.out
        replace K3 : Hid (Blk .u32 w2.drew B3 60 (List.replicate 8 0)) := Lib.hid K3.out
        replace K4 : Hid (Blk .u32 w2.drew B4 81 l) := Lib.hid K4.out
        replace KB : Hid (Below B w w2.drew) := Lib.hid KB.out.drew
        replace KS : Hid (B4 < w2.drew.heap.size) := Lib.hid KS.out
        generalize w2.drew = w3 at ci fi K0 K1 K2 K3 K4 KB KS ⊢
        go_wp2
        refine ⟨?rel, ?mea⟩
        case rel =>
          refine ⟨i + 1, hlt, by simp, ⟨K0.out.far _ _ (by show B ≠ B4; omega)⟩, ⟨K1.out.far _ _ (by show B1 ≠ B4; omega)⟩, ⟨K2.out.far _ _ (by show B2 ≠ B4; omega)⟩, ⟨K3.out.far _ _ (by show B3 ≠ B4; omega)⟩, ⟨?_⟩, ⟨KB.out.setCell (by show B ≤ B4; omega) _⟩, by simpa using KS.out⟩
          rw [← Hr.out, ← Es.out]
          exact K4.out.put' i _ (by rw [Hll.out]; exact b4) _ (nxtR_cast a b x y Hx.out Hy.out)
        case mea => simp [intOf]; omega
    · have h64 : i = 64 := by omega
      subst h64
      clear hi hlt
      obtain ⟨ws, hws⟩ : ∃ ws, ws = schR bs 64 := ⟨_, rfl⟩
      have hwl : ws.length = 64 := by rw [hws]; exact schR_len bs 64
      rw [← hws] at k4
      have Hws := Lib.hid hws
      have WL := Lib.hid hwl
      clear hws hwl
      obtain ⟨C, hC⟩ : ∃ C, C = wr.heap.size := ⟨_, rfl⟩
      have hBC : B4 < C := by omega
      go_wp2_with (first | ((with_reducible refine gD (N := 92) rfl ?_); refine wpList_load_blk rfl 60 (.tmp 3) rfl .u32 B hs 60 _ rfl k0.out Tryd.underlying60 rfl (by rw [HL.out]; exact size_eight) ?_) | ((with_reducible refine gS (p := 11) rfl ?_); refine wpList_store_blk rfl 60 (.tmp 11) (.tmp 92) rfl .u32 wr.heap.size (List.replicate 8 0) hs 60 rfl rfl (blk_new _ _) (by rw [HL.out]; exact size_eight) (by rw [HL.out]; rfl) ?_))
      generalize hW2 : (World.setRow (World.alloc wr _) wr.heap.size (vals .u32 hs)) = w2
      have kb0 : Blk .u32 w2 B 60 hs := by rw [← hW2]; exact Blk.row_far (Blk.alloc k0.out _) _ _ (by omega)
      have kb2 : Blk .u32 w2 B2 81 ks := by rw [← hW2]; exact Blk.row_far (Blk.alloc k2.out _) _ _ (by omega)
      have kb3 : Blk .u32 w2 B3 60 (List.replicate 8 0) := by rw [← hW2]; exact Blk.row_far (Blk.alloc k3.out _) _ _ (by omega)
      have kw : Blk .u32 w2 B4 81 ws := by rw [← hW2]; exact Blk.row_far (Blk.alloc k4.out _) _ _ (by omega)
      have ks' : Blk .u32 w2 C 60 hs := by rw [← hW2, hC]; exact Blk.row (old := List.replicate 8 0) (blk_new _ _)
      have kBb : Below B w w2 := by rw [← hW2]; exact below_setRow (Below.alloc kB.out (by omega) _) (by omega) _
      rw [← hC]
      clear hC hW2 k0 k1 k2 k3 k4 kB ksz
      go_loopw [12] (fun v12 w' => ∃ i, i ≤ 64 ∧ v12 = .int .i64 (i : Nat) ∧ A0_ (Blk .u32 w' B 60 hs) ∧ A0_ (Blk .u32 w' B2 81 ks) ∧ A0_ (Blk .u32 w' B3 60 (List.replicate 8 0)) ∧ A0_ (Blk .u32 w' B4 81 ws) ∧ A0_ (Blk .u32 w' C 60 (stk ks hs ws i)) ∧ A0_ (Below B w w')) (fun v12 _ => (64 - intOf v12).toNat)
      case atStart => exact ⟨0, by omega, rfl, ⟨kb0⟩, ⟨kb2⟩, ⟨kb3⟩, ⟨kw⟩, ⟨ks'⟩, ⟨kBb⟩⟩
      case round =>
        clear kb0 kb2 kb3 kw ks' kBb
        obtain ⟨i, hi, rfl, kb0, kb2, kb3, kw, ks', kB⟩ := hrel
        by_cases hlt : i < 64
        · have p1 : decide ((i : Int) < 64) = true := decide_eq_true (by omega)
          have p2 : (i : Int) < 64 := by omega
          obtain ⟨s, hse⟩ : ∃ s, s = stk ks hs ws i := ⟨_, rfl⟩
          have hsl : s.length = 8 := by rw [hse]; exact stk_len ks hs ws HL.out i
          have hsM : ∀ x ∈ s, x < M := by rw [hse]; exact stk_lt ks hs ws HH.out i
          rw [← hse] at ks'
          obtain ⟨s0, e0⟩ : ∃ x, x = s.getD 0 0 := ⟨_, rfl⟩
          obtain ⟨s1, e1⟩ : ∃ x, x = s.getD 1 0 := ⟨_, rfl⟩
          obtain ⟨s2, e2⟩ : ∃ x, x = s.getD 2 0 := ⟨_, rfl⟩
          obtain ⟨s3, e3⟩ : ∃ x, x = s.getD 3 0 := ⟨_, rfl⟩
          obtain ⟨s4, e4⟩ : ∃ x, x = s.getD 4 0 := ⟨_, rfl⟩
          obtain ⟨s5, e5⟩ : ∃ x, x = s.getD 5 0 := ⟨_, rfl⟩
          obtain ⟨s6, e6⟩ : ∃ x, x = s.getD 6 0 := ⟨_, rfl⟩
          obtain ⟨s7, e7⟩ : ∃ x, x = s.getD 7 0 := ⟨_, rfl⟩
          have c0 := ks'.out.cell 0 (by omega)
          rw [← e0] at c0
          have m0 : s0 < M := by rw [e0]; exact getD_lt hsM (by decide) 0
          have c1 := ks'.out.cell 1 (by omega)
          rw [← e1] at c1
          have m1 : s1 < M := by rw [e1]; exact getD_lt hsM (by decide) 1
          have c2 := ks'.out.cell 2 (by omega)
          rw [← e2] at c2
          have m2 : s2 < M := by rw [e2]; exact getD_lt hsM (by decide) 2
          have c3 := ks'.out.cell 3 (by omega)
          rw [← e3] at c3
          have m3 : s3 < M := by rw [e3]; exact getD_lt hsM (by decide) 3
          have c4 := ks'.out.cell 4 (by omega)
          rw [← e4] at c4
          have m4 : s4 < M := by rw [e4]; exact getD_lt hsM (by decide) 4
          have c5 := ks'.out.cell 5 (by omega)
          rw [← e5] at c5
          have m5 : s5 < M := by rw [e5]; exact getD_lt hsM (by decide) 5
          have c6 := ks'.out.cell 6 (by omega)
          rw [← e6] at c6
          have m6 : s6 < M := by rw [e6]; exact getD_lt hsM (by decide) 6
          have c7 := ks'.out.cell 7 (by omega)
          rw [← e7] at c7
          have m7 : s7 < M := by rw [e7]; exact getD_lt hsM (by decide) 7
          have E0 := Lib.hid e0
          have L0 := Lib.hid m0
          have E1 := Lib.hid e1
          have L1 := Lib.hid m1
          have E2 := Lib.hid e2
          have L2 := Lib.hid m2
          have E3 := Lib.hid e3
          have L3 := Lib.hid m3
          have E4 := Lib.hid e4
          have L4 := Lib.hid m4
          have E5 := Lib.hid e5
          have L5 := Lib.hid m5
          have E6 := Lib.hid e6
          have L6 := Lib.hid m6
          have E7 := Lib.hid e7
          have L7 := Lib.hid m7
          have T46 := Lib.hid (show ∀ W, Calls Tryd.prog 68 #[.int .u32 (s4 : Int), .int .u64 6] W fun e w' => e = .returned (.int .u32 (rr s4 6 : Int)) ∧ w' = W from fun W => turn_c s4 6 W L4.out (by decide))
          have T411 := Lib.hid (show ∀ W, Calls Tryd.prog 68 #[.int .u32 (s4 : Int), .int .u64 11] W fun e w' => e = .returned (.int .u32 (rr s4 11 : Int)) ∧ w' = W from fun W => turn_c s4 11 W L4.out (by decide))
          have T425 := Lib.hid (show ∀ W, Calls Tryd.prog 68 #[.int .u32 (s4 : Int), .int .u64 25] W fun e w' => e = .returned (.int .u32 (rr s4 25 : Int)) ∧ w' = W from fun W => turn_c s4 25 W L4.out (by decide))
          have T02 := Lib.hid (show ∀ W, Calls Tryd.prog 68 #[.int .u32 (s0 : Int), .int .u64 2] W fun e w' => e = .returned (.int .u32 (rr s0 2 : Int)) ∧ w' = W from fun W => turn_c s0 2 W L0.out (by decide))
          have T013 := Lib.hid (show ∀ W, Calls Tryd.prog 68 #[.int .u32 (s0 : Int), .int .u64 13] W fun e w' => e = .returned (.int .u32 (rr s0 13 : Int)) ∧ w' = W from fun W => turn_c s0 13 W L0.out (by decide))
          have T022 := Lib.hid (show ∀ W, Calls Tryd.prog 68 #[.int .u32 (s0 : Int), .int .u64 22] W fun e w' => e = .returned (.int .u32 (rr s0 22 : Int)) ∧ w' = W from fun W => turn_c s0 22 W L0.out (by decide))
          clear e0 e1 e2 e3 e4 e5 e6 e7 m0 m1 m2 m3 m4 m5 m6 m7
          have cw := kw.out.cell i (by rw [WL.out]; exact hlt)
          have ck := kb2.out.cell i (by rw [KL.out]; exact hlt)
          obtain ⟨x, hx⟩ : ∃ x, x = ws.getD i 0 := ⟨_, rfl⟩
          obtain ⟨k, hk⟩ : ∃ x, x = ks.getD i 0 := ⟨_, rfl⟩
          rw [← hx] at cw
          rw [← hk] at ck
          have Hse := Lib.hid hse
          have Hx := Lib.hid hx
          have Hk := Lib.hid hk
          clear hse hx hk hsl hsM
          go_wp2
          refine wp_region_still_lit (by kernel_rfl) (by kernel_rfl) ?_
          repeat still_step
          refine wpStill_nil ?_
          change Exit.then _ _ Exit.normal _ wr.drew
          replace c0 : wr.drew.cell? _ = _ := c0
          replace c1 : wr.drew.cell? _ = _ := c1
          replace c2 : wr.drew.cell? _ = _ := c2
          replace c3 : wr.drew.cell? _ = _ := c3
          replace c4 : wr.drew.cell? _ = _ := c4
          replace c5 : wr.drew.cell? _ = _ := c5
          replace c6 : wr.drew.cell? _ = _ := c6
          replace c7 : wr.drew.cell? _ = _ := c7
          replace cw : wr.drew.cell? _ = _ := cw
          replace ck : wr.drew.cell? _ = _ := ck
          have K0 : Hid (Blk .u32 wr.drew B 60 hs) := Lib.hid kb0.out
          have K2 : Hid (Blk .u32 wr.drew B2 81 ks) := Lib.hid kb2.out
          have K3 : Hid (Blk .u32 wr.drew B3 60 (List.replicate 8 0)) := Lib.hid kb3.out
          have KW : Hid (Blk .u32 wr.drew B4 81 ws) := Lib.hid kw.out
          have KS : Hid (Blk .u32 wr.drew C 60 s) := Lib.hid ks'.out
          have KB : Hid (Below B w wr.drew) := Lib.hid kB.out.drew
          clear kb0 kb2 kb3 kw ks' kB
          generalize wr.drew = w3 at c0 c1 c2 c3 c4 c5 c6 c7 cw ck K0 K2 K3 KW KS KB ⊢
          go_wp2
          refine wp_region_still_lit (by kernel_rfl) (by kernel_rfl) ?_
          repeat (first | still_step | (refine wpStill_step (fun K hK => ?_); go_simp; (first | with_reducible refine ⟨_, T46.out _, hK _ ?_⟩ | with_reducible refine ⟨_, T411.out _, hK _ ?_⟩ | with_reducible refine ⟨_, T425.out _, hK _ ?_⟩); clear hK K))
          refine wpStill_nil ?_
          change Exit.then _ _ Exit.normal _ w3.drew
          replace c0 : w3.drew.cell? _ = _ := c0
          replace c1 : w3.drew.cell? _ = _ := c1
          replace c2 : w3.drew.cell? _ = _ := c2
          replace c3 : w3.drew.cell? _ = _ := c3
          replace c4 : w3.drew.cell? _ = _ := c4
          replace c5 : w3.drew.cell? _ = _ := c5
          replace c6 : w3.drew.cell? _ = _ := c6
          replace c7 : w3.drew.cell? _ = _ := c7
          replace cw : w3.drew.cell? _ = _ := cw
          replace ck : w3.drew.cell? _ = _ := ck
          replace K0 : Hid (Blk .u32 w3.drew B 60 hs) := Lib.hid K0.out
          replace K2 : Hid (Blk .u32 w3.drew B2 81 ks) := Lib.hid K2.out
          replace K3 : Hid (Blk .u32 w3.drew B3 60 (List.replicate 8 0)) := Lib.hid K3.out
          replace KW : Hid (Blk .u32 w3.drew B4 81 ws) := Lib.hid KW.out
          replace KS : Hid (Blk .u32 w3.drew C 60 s) := Lib.hid KS.out
          replace KB : Hid (Below B w w3.drew) := Lib.hid KB.out.drew
          generalize w3.drew = w4 at c0 c1 c2 c3 c4 c5 c6 c7 cw ck K0 K2 K3 KW KS KB ⊢
          go_wp2
          refine wp_region_still_lit (by kernel_rfl) (by kernel_rfl) ?_
          repeat (first | still_step | (refine wpStill_step (fun K hK => ?_); go_simp; (first | with_reducible refine ⟨_, T02.out _, hK _ ?_⟩ | with_reducible refine ⟨_, T013.out _, hK _ ?_⟩ | with_reducible refine ⟨_, T022.out _, hK _ ?_⟩); clear hK K))
          refine wpStill_nil ?_
          change Exit.then _ _ Exit.normal _ w4.drew
          replace c0 : w4.drew.cell? _ = _ := c0
          replace c1 : w4.drew.cell? _ = _ := c1
          replace c2 : w4.drew.cell? _ = _ := c2
          replace c3 : w4.drew.cell? _ = _ := c3
          replace c4 : w4.drew.cell? _ = _ := c4
          replace c5 : w4.drew.cell? _ = _ := c5
          replace c6 : w4.drew.cell? _ = _ := c6
          replace c7 : w4.drew.cell? _ = _ := c7
          replace cw : w4.drew.cell? _ = _ := cw
          replace ck : w4.drew.cell? _ = _ := ck
          replace K0 : Hid (Blk .u32 w4.drew B 60 hs) := Lib.hid K0.out
          replace K2 : Hid (Blk .u32 w4.drew B2 81 ks) := Lib.hid K2.out
          replace K3 : Hid (Blk .u32 w4.drew B3 60 (List.replicate 8 0)) := Lib.hid K3.out
          replace KW : Hid (Blk .u32 w4.drew B4 81 ws) := Lib.hid KW.out
          replace KS : Hid (Blk .u32 w4.drew C 60 s) := Lib.hid KS.out
          replace KB : Hid (Below B w w4.drew) := Lib.hid KB.out.drew
          generalize w4.drew = w5 at c0 c1 c2 c3 c4 c5 c6 c7 cw ck K0 K2 K3 KW KS KB ⊢
          have f0 := KS.out.free 0
          have f1 := KS.out.free 1
          have f2 := KS.out.free 2
          have f3 := KS.out.free 3
          have f4 := KS.out.free 4
          have f5 := KS.out.free 5
          have f6 := KS.out.free 6
          have f7 := KS.out.free 7
          clear T46 T411 T425 T02 T013 T022
          go_wp2
          refine ⟨⟨i + 1, hlt, by simp, ⟨?_⟩, ⟨?_⟩, ⟨?_⟩, ⟨?_⟩, ⟨?_⟩, ⟨?_⟩⟩, by simp [intOf]; omega⟩
          · iterate 8 refine Blk.far ?_ _ _ (by show B ≠ C; omega)
            exact K0.out
          · iterate 8 refine Blk.far ?_ _ _ (by show B2 ≠ C; omega)
            exact K2.out
          · iterate 8 refine Blk.far ?_ _ _ (by show B3 ≠ C; omega)
            exact K3.out
          · iterate 8 refine Blk.far ?_ _ _ (by show B4 ≠ C; omega)
            exact KW.out
          · have q := blk8 KS.out (by rw [Hse.out]; exact stk_len ks hs ws HL.out i) _ s0 s1 s2 _ s4 s5 s6 _ _ (e0_cast s0 s1 s2 s4 s5 s6 s7 k x L0.out L1.out L2.out L4.out L5.out L6.out) (e4_cast s3 s4 s5 s6 s7 k x L4.out L5.out L6.out)
            have e : [(upr s4 s5 s6 s7 k x % M + dnr s0 s1 s2 % M) % M, s0, s1, s2, (s3 + upr s4 s5 s6 s7 k x % M) % M, s4, s5, s6] = stk ks hs ws (i + 1) := by
              rw [stk, ← Hse.out, ← Hk.out, ← Hx.out, rnd, up, dn, ← E0.out, ← E1.out, ← E2.out, ← E3.out, ← E4.out, ← E5.out, ← E6.out, ← E7.out]; rfl
            rw [e] at q
            exact q
          · iterate 8 refine Below.setCell ?_ (by show B ≤ C; omega) _
            exact KB.out
        · have h64 : i = 64 := by omega
          subst h64
          clear hi hlt
          obtain ⟨s, hse⟩ : ∃ s, s = stk ks hs ws 64 := ⟨_, rfl⟩
          have hsl : s.length = 8 := by rw [hse]; exact stk_len ks hs ws HL.out 64
          rw [← hse] at ks'
          have hbl : fin hs s 8 = stepR ks hs bs := by rw [stepR, ← Hws.out, ← hse]
          have SL := Lib.hid hsl
          have HBL := Lib.hid hbl
          clear hse hsl hbl
          go_wp2
          go_loopw [17] (fun v17 w' => ∃ i, i ≤ 8 ∧ v17 = .int .i64 (i : Nat) ∧ A0_ (Blk .u32 w' B 60 (fin hs s i)) ∧ A0_ (Blk .u32 w' (B3) 60 (List.replicate 8 0)) ∧ A0_ (Blk .u32 w' (C) 60 s) ∧ A0_ (Below B w w')) (fun v17 _ => (8 - intOf v17).toNat)
          case atStart => exact ⟨0, by omega, rfl, kb0, kb3, ks', kB⟩
          case round =>
            clear kb0 kb3 ks' kB kw kb2
            obtain ⟨i, hi, rfl, kb0, kb3, ks', kB⟩ := hrel
            by_cases hlt : i < 8
            · have p1 : decide ((i : Int) < 8) = true := decide_eq_true (by omega)
              have p2 : (i : Int) < 8 := by omega
              obtain ⟨x, hxe⟩ : ∃ x, x = (fin hs s i).getD i 0 := ⟨_, rfl⟩
              obtain ⟨y, hye⟩ : ∃ y, y = s.getD i 0 := ⟨_, rfl⟩
              have c0 := kb0.out.cell i (by rw [fin_len, HL.out]; exact hlt)
              have c1 := ks'.out.cell i (by rw [SL.out]; exact hlt)
              have f0 := kb0.out.free i
              rw [← hxe] at c0
              rw [← hye] at c1
              have Hx := Lib.hid hxe
              have Hy := Lib.hid hye
              clear hxe hye
              go_wp2
              go_region
              have g0 := kb0.out.put' i ((x + y) % M) (by rw [fin_len, HL.out]; exact hlt) (((x : Int) + (y : Int)) % 4294967296) (by rw [M_eq]; simp)
              have g2 := kb3.out.far { block := B, off := i } (.int .u32 (((x : Int) + (y : Int)) % 4294967296)) (by show B3 ≠ B; omega)
              have gs := ks'.out.far { block := B, off := i } (.int .u32 (((x : Int) + (y : Int)) % 4294967296)) (by show C ≠ B; omega)
              have gB := kB.out.setCell (p := { block := B, off := i }) (Nat.le_refl _) (.int .u32 (((x : Int) + (y : Int)) % 4294967296))
              have es : (fin hs s i).set i ((x + y) % M) = fin hs s (i + 1) := by rw [fin, ← Hx.out, ← Hy.out]
              rw [es] at g0
              clear kb0 kb3 ks' kB c0 c1 f0 es
              go_wp2
              exact ⟨⟨i + 1, hlt, by simp, ⟨g0⟩, ⟨g2⟩, ⟨gs⟩, ⟨gB.drew⟩⟩, by simp [intOf]; omega⟩
            · have h8 : i = 8 := by omega
              subst h8
              clear hi hlt
              rw [HBL.out] at kb0
              obtain ⟨l, hle⟩ : ∃ l, l = stepR ks hs bs := ⟨_, rfl⟩
              have hll : l.length = 8 := by rw [hle]; exact (by rw [stepR, fin_len]; exact HL.out)
              rw [← hle] at kb0
              have Hll := Lib.hid hll
              have Hle := Lib.hid hle
              clear hll hle
              go_wp2_with (first | ((with_reducible refine gD (N := 187) rfl ?_); refine wpList_load_blk rfl 60 (.tmp 3) rfl .u32 B l 60 _ rfl kb0.out Tryd.underlying60 rfl (by rw [Hll.out]; exact size_eight) ?_) | ((with_reducible refine gS (p := 6) rfl ?_); refine wpList_store_blk rfl 60 (.tmp 6) (.tmp 187) rfl .u32 (B3) (List.replicate 8 0) l 60 rfl rfl kb3.out (by rw [Hll.out]; exact size_eight) (by rw [Hll.out]; rfl) ?_))
              have g1 := kb3.out.row (l := l)
              have hload := run_loadVar_row (P := Tryd.prog) _ (B3) 60 60 (vals .u32 l) (0, 0) _ g1 Tryd.underlying60 rfl (by rw [vals_size, Hll.out]; exact size_eight)
              have gB := below_setRow kB.out (show B ≤ B3 by omega) (vals .u32 l)
              refine bodyPost_ret (v := .agg (vals .u32 l)) ?_ rfl ⟨by rw [Hle.out], by rw [← HBs.out]; exact gB⟩
              simp [results, Tryd.results60, Act.put, asAddr, hload]
end Go.Proofs.YtklakmooaffjpaaDoor.DgsT
end

section
/-
  The program's step and the reference's are one.
-/
namespace Go.Proofs.YtklakmooaffjpaaDoor.DgsE
open Go.RowKit Go.Proofs.YtklakmooaffjpaaDoorW.PrintWords Go.Proofs.YtklakmooaffjpaaDoorW.PrintMore Go.Proofs.YtklakmooaffjpaaDoor.Cm Go.Proofs.YtklakmooaffjpaaDoor.Str Go.Proofs.YtklakmooaffjpaaDoor.DgsP Go.Proofs.YtklakmooaffjpaaDoor.DgsH Go.Proofs.YtklakmooaffjpaaDoor.DgsS Go.Proofs.YtklakmooaffjpaaDoor.DgsB Go.Proofs.YtklakmooaffjpaaDoor.DgsR Go.Proofs.YtklakmooaffjpaaDoor.DgsT
set_option linter.unusedVariables false
/-- A word, byte by byte. -/
def acc (bs : List Nat) (j : Nat) : Nat → Nat
  | 0 => 0
  | c + 1 => ((acc bs j c) <<< 8) % M ||| bs.getD (4 * j + c) 0
theorem getD_set (l : List Nat) (i j x : Nat) (hi : i < l.length) : (l.set i x).getD j 0 = if i = j then x else l.getD j 0 := by
  rw [List.getD_eq_getElem?_getD, List.getD_eq_getElem?_getD, List.getElem?_set]
  split
  · rfl
  · rfl
theorem getD_zero (n j : Nat) : (List.replicate n 0).getD j 0 = 0 := by
  rw [List.getD_eq_getElem?_getD, List.getElem?_replicate]; split <;> rfl
theorem sch1_at (bs : List Nat) : ∀ i, i ≤ 64 → ∀ j, j < 16 → (sch1 bs i).getD j 0 = acc bs j (min (i - 4 * j) 4)
  | 0, _, j, _ => by rw [sch1, getD_zero]; simp [acc]
  | i + 1, hi, j, hj => by
    have ih := sch1_at bs i (by omega)
    rw [sch1, getD_set _ _ _ _ (by rw [sch1_len]; omega)]
    by_cases h : i / 4 = j
    · rw [if_pos h, h, ih j hj, show min (i + 1 - 4 * j) 4 = (i - 4 * j) + 1 by omega, show min (i - 4 * j) 4 = i - 4 * j by omega, acc, show 4 * j + (i - 4 * j) = i by omega]
    · rw [if_neg h, ih j hj]; congr 1; omega
theorem sch1_past (bs : List Nat) : ∀ i, i ≤ 64 → ∀ j, 16 ≤ j → (sch1 bs i).getD j 0 = 0
  | 0, _, j, _ => by rw [sch1, getD_zero]
  | i + 1, hi, j, hj => by
    rw [sch1, getD_set _ _ _ _ (by rw [sch1_len]; omega), if_neg (by omega)]
    exact sch1_past bs i (by omega) j hj
theorem schR_at (bs : List Nat) : ∀ i, i ≤ 16 → ∀ j, (schR bs i).getD j 0 = if j < i then word4 (bs.getD (4 * j) 0) (bs.getD (4 * j + 1) 0) (bs.getD (4 * j + 2) 0) (bs.getD (4 * j + 3) 0) else 0
  | 0, _, j => by rw [schR, getD_zero, if_neg (by omega)]
  | i + 1, hi, j => by
    rw [schR, getD_set _ _ _ _ (by rw [schR_len]; omega), if_pos (by omega : i < 16)]
    by_cases h : i = j
    · subst h; rw [if_pos rfl, if_pos (by omega)]
    · rw [if_neg h, schR_at bs i (by omega)]
      by_cases h2 : j < i
      · rw [if_pos h2, if_pos (by omega)]
      · rw [if_neg h2, if_neg (by omega)]
theorem acc4 (bs : List Nat) (hb : ∀ x ∈ bs, x < 256) (j : Nat) : acc bs j 4 = word4 (bs.getD (4 * j) 0) (bs.getD (4 * j + 1) 0) (bs.getD (4 * j + 2) 0) (bs.getD (4 * j + 3) 0) := by
  have h0 := getD_lt hb (by decide) (4 * j)
  have h1 := getD_lt hb (by decide) (4 * j + 1)
  have h2 := getD_lt hb (by decide) (4 * j + 2)
  have h3 := getD_lt hb (by decide) (4 * j + 3)
  simp only [acc, Nat.add_zero]
  generalize bs.getD (4 * j) 0 = b0 at *
  generalize bs.getD (4 * j + 1) 0 = b1 at *
  generalize bs.getD (4 * j + 2) 0 = b2 at *
  generalize bs.getD (4 * j + 3) 0 = b3 at *
  have s : ∀ x n : Nat, x <<< n = x * 2 ^ n := fun x n => Nat.shiftLeft_eq x n
  have e0 : (0 <<< 8 % M ||| b0) = b0 := by simp
  have l1 : b0 <<< 8 ||| b1 < 2 ^ 16 := Nat.or_lt_two_pow (by rw [s]; omega) (by omega)
  have e1 : b0 <<< 8 % M = b0 <<< 8 := Nat.mod_eq_of_lt (by rw [s, M_eq]; omega)
  have l2 : (b0 <<< 8 ||| b1) <<< 8 ||| b2 < 2 ^ 24 := Nat.or_lt_two_pow (by rw [s]; omega) (by omega)
  have e2 : (b0 <<< 8 ||| b1) <<< 8 % M = (b0 <<< 8 ||| b1) <<< 8 := Nat.mod_eq_of_lt (by rw [s, M_eq]; omega)
  have e3 : ((b0 <<< 8 ||| b1) <<< 8 ||| b2) <<< 8 % M = ((b0 <<< 8 ||| b1) <<< 8 ||| b2) <<< 8 := Nat.mod_eq_of_lt (by rw [s ((b0 <<< 8 ||| b1) <<< 8 ||| b2), M_eq]; omega)
  rw [e0, e1, e2, e3, word4, Nat.mod_eq_of_lt (show b0 <<< 24 < M by rw [s, M_eq]; omega), Nat.mod_eq_of_lt (show b1 <<< 16 < M by rw [s, M_eq]; omega), Nat.mod_eq_of_lt (show b2 <<< 8 < M by rw [s, M_eq]; omega)]
  simp only [Nat.shiftLeft_or_distrib, ← Nat.shiftLeft_add]
theorem list_getD (a b : List Nat) (hl : a.length = b.length) (h : ∀ j, j < a.length → a.getD j 0 = b.getD j 0) : a = b := by
  apply List.ext_getElem hl
  intro j h1 h2
  have := h j h1
  rwa [List.getD_eq_getElem?_getD, List.getD_eq_getElem?_getD, List.getElem?_eq_getElem h1, List.getElem?_eq_getElem h2] at this
theorem sch_16 (bs : List Nat) (hb : ∀ x ∈ bs, x < 256) : schR bs 16 = sch1 bs 64 := by
  refine list_getD _ _ (by rw [schR_len, sch1_len]) fun j hj => ?_
  rw [schR_at bs 16 (by omega)]
  by_cases h : j < 16
  · rw [if_pos h, sch1_at bs 64 (by omega) j h, show min (64 - 4 * j) 4 = 4 by omega, acc4 bs hb]
  · rw [if_neg h, sch1_past bs 64 (by omega) j (by omega)]
theorem sch_up (bs : List Nat) (hb : ∀ x ∈ bs, x < 256) : ∀ n, schR bs (n + 16) = sch2 (sch1 bs 64) n
  | 0 => sch_16 bs hb
  | n + 1 => by
    rw [show n + 1 + 16 = (n + 16) + 1 by omega, schR, sch2, sch_up bs hb n, if_neg (by omega), show n + 16 - 16 = n by omega, show n + 16 - 7 = n + 9 by omega, show n + 16 - 15 = n + 1 by omega, show n + 16 - 2 = n + 14 by omega]
theorem step_block (hs bs : List Nat) (hb : ∀ x ∈ bs, x < 256) : stepR kt hs bs = blockL hs bs := by
  rw [stepR, blockL, stk_kt, sched, ← sch_up bs hb 48]
end Go.Proofs.YtklakmooaffjpaaDoor.DgsE
end
