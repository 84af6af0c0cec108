import Derived.Test.YtklakmooaffjpaaDoorDgsR
import Derived.Test.YtklakmooaffjpaaDoorProg
import Derived.Below
import Derived.Deep.Draws
import Derived.Deep.AppendLies
import Derived.Maps.AppendAt
import Derived.OwnWalk
import Derived.Laws.BytesArg
import Derived.Laws.MakeOwn
import Derived.Laws.OwnMore
import Derived.Deep.OwnRows
import Derived.Tactics
import Derived.Lib.ConvBytes
import Derived.Laws.Slices
import Derived.WalkKit
import Derived.KernelRfl
import Derived.RowKit3
import Derived.Deep.LoopGhost
import Derived.Deep.QuietTactic
import Derived.BigQuiet
import Derived.WideLaws
import Derived.Deep.DeepCutAuto
import Derived.Deep.CutBlock
import Derived.Deep.RegionHeld3
import Derived.Laws.Rows
import Derived.Lib.AppendStr
import Derived.ArgAppend
import Derived.Laws.IdiomCopy
import Derived.OrdersHeld
import Derived.Laws.BitsLemmas
import Derived.RowKit
import Derived.Test.YtklakmooaffjpaaDoorWWords
import Derived.Test.YtklakmooaffjpaaDoorWNEv
import Derived.Test.YtklakmooaffjpaaDoorWGuard
import Derived.Test.YtklakmooaffjpaaDoorWMore
import Derived.Test.YtklakmooaffjpaaDoorSQ
section
/-
  digest.Block, walked by hand (begun).
-/
namespace Go.Proofs.YtklakmooaffjpaaDoor.DgsB
open Go.RowKit Go.Proofs.YtklakmooaffjpaaDoorW.PrintWords Go.Proofs.YtklakmooaffjpaaDoorW.PrintMore Go.Proofs.YtklakmooaffjpaaDoor.Cm Go.Proofs.YtklakmooaffjpaaDoor.Str Go.Proofs.YtklakmooaffjpaaDoor.DgsP Go.Proofs.YtklakmooaffjpaaDoor.DgsH Go.Proofs.YtklakmooaffjpaaDoor.DgsS Go.Proofs.YtklakmooaffjpaaDoor.DgsR
set_option linter.unusedVariables false
/-- The words that a digest begins with. -/
def beg : List Nat := [0x6a09e667, 0xbb67ae85, 0x3c6ef372, 0xa54ff53a, 0x510e527f, 0x9b05688c, 0x1f83d9ab, 0x5be0cd19]
/-- The constants of the rounds. -/
def kt : List Nat := [0x428a2f98, 0x71374491, 0xb5c0fbcf, 0xe9b5dba5, 0x3956c25b, 0x59f111f1, 0x923f82a4, 0xab1c5ed5,
  0xd807aa98, 0x12835b01, 0x243185be, 0x550c7dc3, 0x72be5d74, 0x80deb1fe, 0x9bdc06a7, 0xc19bf174,
  0xe49b69c1, 0xefbe4786, 0x0fc19dc6, 0x240ca1cc, 0x2de92c6f, 0x4a7484aa, 0x5cb0a9dc, 0x76f988da,
  0x983e5152, 0xa831c66d, 0xb00327c8, 0xbf597fc7, 0xc6e00bf3, 0xd5a79147, 0x06ca6351, 0x14292967,
  0x27b70a85, 0x2e1b2138, 0x4d2c6dfc, 0x53380d13, 0x650a7354, 0x766a0abb, 0x81c2c92e, 0x92722c85,
  0xa2bfe8a1, 0xa81a664b, 0xc24b8b70, 0xc76c51a3, 0xd192e819, 0xd6990624, 0xf40e3585, 0x106aa070,
  0x19a4c116, 0x1e376c08, 0x2748774c, 0x34b0bcb5, 0x391c0cb3, 0x4ed8aa4a, 0x5b9cca4f, 0x682e6ff3,
  0x748f82ee, 0x78a5636f, 0x84c87814, 0x8cc70208, 0x90befffa, 0xa4506ceb, 0xbef9a3f7, 0xc67178f2]
/-- The tables lie where they were laid. -/
structure Glob (w : World) : Prop where
  beg : ∀ i, i < 8 → w.cell? ⟨0, i, none⟩ = some (.int .u32 (beg.getD i 0 : Nat))
  kt : ∀ i, i < 64 → w.cell? ⟨1, i, none⟩ = some (.int .u32 (kt.getD i 0 : Nat))
theorem Glob.below {w w' : World} (h : Glob w) (hb : Below w.heap.size w w') : Glob w' :=
  ⟨fun i hi => (hb.cell (p := ⟨0, i, none⟩) (World.block_lt_of_cell? w _ (h.beg i hi))).trans (h.beg i hi), fun i hi => (hb.cell (p := ⟨1, i, none⟩) (World.block_lt_of_cell? w _ (h.kt i hi))).trans (h.kt i hi)⟩
/-- One round. -/
def up (s : List Nat) (k w : Nat) : Nat := (s.getD 7 0 + (rr (s.getD 4 0) 6 ^^^ rr (s.getD 4 0) 11 ^^^ rr (s.getD 4 0) 25) + ((s.getD 4 0 &&& s.getD 5 0) ^^^ ((M - 1 - s.getD 4 0) &&& s.getD 6 0)) + k + w) % M
def dn (s : List Nat) : Nat := ((rr (s.getD 0 0) 2 ^^^ rr (s.getD 0 0) 13 ^^^ rr (s.getD 0 0) 22) + ((s.getD 0 0 &&& s.getD 1 0) ^^^ (s.getD 0 0 &&& s.getD 2 0) ^^^ (s.getD 1 0 &&& s.getD 2 0))) % M
def rnd (s : List Nat) (k w : Nat) : List Nat := [(up s k w + dn s) % M, s.getD 0 0, s.getD 1 0, s.getD 2 0, (s.getD 3 0 + up s k w) % M, s.getD 4 0, s.getD 5 0, s.getD 6 0]
def st (hs ws : List Nat) : Nat → List Nat
  | 0 => hs
  | i + 1 => rnd (st hs ws i) (kt.getD i 0) (ws.getD i 0)
theorem rnd_lt (s : List Nat) (k w : Nat) (h : ∀ x ∈ s, x < M) : ∀ x ∈ rnd s k w, x < M := by
  intro x hx
  simp only [rnd, List.mem_cons, List.not_mem_nil, or_false] at hx
  have g := fun i => getD_lt h (by decide) i
  rcases hx with rfl | rfl | rfl | rfl | rfl | rfl | rfl | rfl
  · exact Nat.mod_lt _ (by decide)
  · exact g 0
  · exact g 1
  · exact g 2
  · exact Nat.mod_lt _ (by decide)
  · exact g 4
  · exact g 5
  · exact g 6
theorem st_lt (hs ws : List Nat) (h : ∀ x ∈ hs, x < M) : ∀ i, ∀ x ∈ st hs ws i, x < M
  | 0 => h
  | i + 1 => rnd_lt _ _ _ (st_lt hs ws h i)
theorem st_len (hs ws : List Nat) (h : hs.length = 8) : ∀ i, (st hs ws i).length = 8
  | 0 => h
  | _ + 1 => rfl
/-- The sums of a round, not cut down. -/
def upr (s4 s5 s6 s7 k w : Nat) : Nat := s7 + (rr s4 6 ^^^ rr s4 11 ^^^ rr s4 25) + ((s4 &&& s5) ^^^ ((M - 1 - s4) &&& s6)) + k + w
def dnr (s0 s1 s2 : Nat) : Nat := (rr s0 2 ^^^ rr s0 13 ^^^ rr s0 22) + ((s0 &&& s1) ^^^ (s0 &&& s2) ^^^ (s1 &&& s2))
theorem up_cast (s4 s5 s6 s7 k w : Nat) (h4 : s4 < M) (h5 : s5 < M) (h6 : s6 < M) :
    ((s7 : Int) + bits .xor .u32 (bits .xor .u32 (rr s4 6 : Int) (rr s4 11 : Int)) (rr s4 25 : Int) + bits .xor .u32 (bits .and .u32 (s4 : Int) (s5 : Int)) (bits .and .u32 (bits .xor .u32 IntKind.u32.max (s4 : Int)) (s6 : Int)) + (k : Int) + (w : Int)) = (upr s4 s5 s6 s7 k w : Nat) := by
  have hn : M - 1 - s4 < M := by rw [M_eq] at *; omega
  rw [not_cast s4 h4, bits_xor _ _ (rr_lt s4 6 h4) (rr_lt s4 11 h4), bits_xor _ _ (xor_lt _ _ (rr_lt s4 6 h4) (rr_lt s4 11 h4)) (rr_lt s4 25 h4), bits_and _ _ h4 h5, bits_and _ _ hn h6, bits_xor _ _ (and_lt _ _ h5) (and_lt _ _ h6)]
  unfold upr
  simp only [Int.natCast_add]
theorem dn_cast (s0 s1 s2 : Nat) (h0 : s0 < M) (h1 : s1 < M) (h2 : s2 < M) :
    (bits .xor .u32 (bits .xor .u32 (rr s0 2 : Int) (rr s0 13 : Int)) (rr s0 22 : Int) + bits .xor .u32 (bits .xor .u32 (bits .and .u32 (s0 : Int) (s1 : Int)) (bits .and .u32 (s0 : Int) (s2 : Int))) (bits .and .u32 (s1 : Int) (s2 : Int))) = (dnr s0 s1 s2 : Nat) := by
  rw [bits_xor _ _ (rr_lt s0 2 h0) (rr_lt s0 13 h0), bits_xor _ _ (xor_lt _ _ (rr_lt s0 2 h0) (rr_lt s0 13 h0)) (rr_lt s0 22 h0), bits_and _ _ h0 h1, bits_and _ _ h0 h2, bits_and _ _ h1 h2, bits_xor _ _ (and_lt _ _ h1) (and_lt _ _ h2), bits_xor _ _ (xor_lt _ _ (and_lt _ _ h1) (and_lt _ _ h2)) (and_lt _ _ h2)]
  unfold dnr
  simp only [Int.natCast_add]
theorem e0_cast (s0 s1 s2 s4 s5 s6 s7 k w : Nat) (h0 : s0 < M) (h1 : s1 < M) (h2 : s2 < M) (h4 : s4 < M) (h5 : s5 < M) (h6 : s6 < M) :
    ((s7 : Int) + bits .xor .u32 (bits .xor .u32 (rr s4 6 : Int) (rr s4 11 : Int)) (rr s4 25 : Int) + bits .xor .u32 (bits .and .u32 (s4 : Int) (s5 : Int)) (bits .and .u32 (bits .xor .u32 IntKind.u32.max (s4 : Int)) (s6 : Int)) + (k : Int) + (w : Int) + (bits .xor .u32 (bits .xor .u32 (rr s0 2 : Int) (rr s0 13 : Int)) (rr s0 22 : Int) + bits .xor .u32 (bits .xor .u32 (bits .and .u32 (s0 : Int) (s1 : Int)) (bits .and .u32 (s0 : Int) (s2 : Int))) (bits .and .u32 (s1 : Int) (s2 : Int)))) % 4294967296 = (((upr s4 s5 s6 s7 k w % M + dnr s0 s1 s2 % M) % M : Nat) : Int) := by
  rw [up_cast s4 s5 s6 s7 k w h4 h5 h6, dn_cast s0 s1 s2 h0 h1 h2, M_eq]; omega
theorem e4_cast (s3 s4 s5 s6 s7 k w : Nat) (h4 : s4 < M) (h5 : s5 < M) (h6 : s6 < M) :
    ((s3 : Int) + ((s7 : Int) + bits .xor .u32 (bits .xor .u32 (rr s4 6 : Int) (rr s4 11 : Int)) (rr s4 25 : Int) + bits .xor .u32 (bits .and .u32 (s4 : Int) (s5 : Int)) (bits .and .u32 (bits .xor .u32 IntKind.u32.max (s4 : Int)) (s6 : Int)) + (k : Int) + (w : Int))) % 4294967296 = (((s3 + upr s4 s5 s6 s7 k w % M) % M : Nat) : Int) := by
  rw [up_cast s4 s5 s6 s7 k w h4 h5 h6, M_eq]; omega
theorem blk8 {w : World} {B : Nat} {t : TypeId} {s : List Nat} (h : Blk .u32 w B t s) (hl : s.length = 8) (x0 x1 x2 x3 x4 x5 x6 x7 : Nat) (v0 v4 : Int) (e0 : v0 = x0) (e4 : v4 = x4) :
    Blk .u32 ((((((((w.setCell { block := B, off := 0 } (.int .u32 v0)).setCell { block := B, off := 1 } (.int .u32 (x1 : Int))).setCell { block := B, off := 2 } (.int .u32 (x2 : Int))).setCell { block := B, off := 3 } (.int .u32 (x3 : Int))).setCell { block := B, off := 4 } (.int .u32 v4)).setCell { block := B, off := 5 } (.int .u32 (x5 : Int))).setCell { block := B, off := 6 } (.int .u32 (x6 : Int))).setCell { block := B, off := 7 } (.int .u32 (x7 : Int))) B t [x0, x1, x2, x3, x4, x5, x6, x7] := by
  subst e0
  subst e4
  have q := (((((((h.put 0 x0 (by omega)).put 1 x1 (by simp; omega)).put 2 x2 (by simp; omega)).put 3 x3 (by simp; omega)).put 4 x4 (by simp; omega)).put 5 x5 (by simp; omega)).put 6 x6 (by simp; omega)).put 7 x7 (by simp; omega)
  have e : ((((((((s.set 0 x0).set 1 x1).set 2 x2).set 3 x3).set 4 x4).set 5 x5).set 6 x6).set 7 x7) = [x0, x1, x2, x3, x4, x5, x6, x7] := by
    match s, hl with
    | [_, _, _, _, _, _, _, _], _ => rfl
  rw [e] at q
  exact q
/-- The words are added up. -/
def fin (hs s : List Nat) : Nat → List Nat
  | 0 => hs
  | i + 1 => (fin hs s i).set i (((fin hs s i).getD i 0 + s.getD i 0) % M)
theorem fin_len (hs s : List Nat) : ∀ i, (fin hs s i).length = hs.length
  | 0 => rfl
  | i + 1 => by simp [fin, fin_len hs s i]
/-- One step. -/
def blockL (hs bs : List Nat) : List Nat := fin hs (st hs (sched bs) 64) 8
theorem blockL_len (hs bs : List Nat) (h : hs.length = 8) : (blockL hs bs).length = 8 := by rw [blockL, fin_len, h]
theorem fin_lt (hs s : List Nat) (h : ∀ x ∈ hs, x < M) : ∀ i, ∀ x ∈ fin hs s i, x < M
  | 0 => h
  | i + 1 => fun x hx => by
    rcases List.mem_or_eq_of_mem_set hx with h' | rfl
    · exact fin_lt hs s h i x h'
    · exact Nat.mod_lt _ (by decide)
theorem blockL_lt (hs bs : List Nat) (h : ∀ x ∈ hs, x < M) : ∀ x ∈ blockL hs bs, x < M := fin_lt _ _ h 8
theorem blk_new' (w : World) (o : Obj) (g : Nat) (hg : g = w.heap.size) : (w.alloc o).heap[g]? = some o := by rw [hg]; exact blk_new w o
theorem size_eight : (Tryd.prog.info? 60).map (·.size) = some 8 := by kernel_rfl
theorem size_bytes : (Tryd.prog.info? 62).map (·.size) = some 64 := by kernel_rfl
set_option maxRecDepth 100000 in
set_option maxHeartbeats 4000000 in
theorem block_c (hs bs : List Nat) (hl : hs.length = 8) (hh : ∀ x ∈ hs, x < M) (bl : bs.length = 64) (hb : ∀ x ∈ bs, x < 256) (w : World) (hG : Glob w) : Calls Tryd.prog 34 #[.agg (vals .u32 hs), .agg (vals .u8 bs)] w fun e w' => e = .returned (.agg (vals .u32 (blockL hs bs))) ∧ Below w.heap.size w w' := by
  have HL := Lib.hid hl
  have BL := Lib.hid bl
  have S := Lib.hid fun W => schedule_c bs bl hb W
  clear hl bl
  obtain ⟨B, hB⟩ : ∃ B, B = w.heap.size := ⟨_, rfl⟩
  go_enter Tryd.func34, Tryd.ntmps34
  go_wp2_with ((with_reducible refine gD (N := 15) rfl ?_); refine wpList_load_blk rfl 62 (.tmp 3) rfl .u8 (w.heap.size + 1) bs 62 _ rfl (by rw [← World.size_alloc w]; exact bA (blk_new _ _) _) Tryd.underlying62 rfl (by rw [BL.out]; exact size_bytes) ?_)
  generalize hW : (World.alloc (World.alloc (World.alloc w _) _) _) = W
  have hb0 : Blk .u32 W B 60 hs := by rw [← hW, hB]; exact bA (bA (blk_new w _) _) _
  have hb1 : Blk .u8 W (B + 1) 62 bs := by rw [← hW, hB, ← World.size_alloc w]; exact bA (blk_new _ _) _
  have hb2 : Blk .u32 W (B + 1 + 1) 60 (List.replicate 8 0) := by rw [← hW, hB, ← World.size_alloc w, ← World.size_alloc (World.alloc w _)]; exact blk_new _ _
  have hbel : Below B w W := by rw [← hW, hB]; exact wA (wA (wA (Below.refl _ _) _) _) _
  have hsz : B + 3 ≤ W.heap.size := by rw [← hW, hB]; simp
  rw [← hB]
  have HB := Lib.hid hB
  clear hB hW
  refine (S.out W).mono ?_
  rintro e w1 ⟨rfl, hB1⟩
  replace hb0 := hb0.below hB1
  replace hb1 := hb1.below hB1
  replace hb2 := hb2.below hB1
  replace hbel := hbel.trans (hB1.mono (by omega))
  replace hsz := Nat.le_trans hsz hB1.size
  clear hB1 S
  obtain ⟨ws, hws⟩ : ∃ ws, ws = sched bs := ⟨_, rfl⟩
  have hwl : ws.length = 64 := by rw [hws]; exact sched_len bs
  rw [← hws]
  have Hws := Lib.hid hws
  have WL := Lib.hid hwl
  clear hws hwl
  obtain ⟨C, hC⟩ : ∃ C, C = w1.heap.size := ⟨_, rfl⟩
  go_wp2_with (first | ((with_reducible refine gS (p := 5) rfl ?_); refine wpList_store_blk rfl 81 (.tmp 5) (.tmp 16) rfl .u32 w1.heap.size (List.replicate 64 0) ws 81 rfl rfl (blk_new _ _) (by rw [WL.out]; exact size_words) (by rw [WL.out]; rfl) ?_) | ((with_reducible refine gD (N := 17) rfl ?_); refine wpList_load_blk rfl 60 (.tmp 2) rfl .u32 B hs 60 _ rfl (Blk.row_far (Blk.alloc hb0 _) _ _ (by omega)) Tryd.underlying60 rfl (by rw [HL.out]; exact size_eight) ?_) | ((with_reducible refine gS (p := 6) rfl ?_); refine wpList_store_blk rfl 60 (.tmp 6) (.tmp 17) rfl .u32 (w1.heap.size + 1) (List.replicate 8 0) hs 60 rfl rfl (blk_new' _ _ _ (by simp)) (by rw [HL.out]; exact size_eight) (by rw [HL.out]; rfl) ?_))
  generalize hW2 : (World.setRow (World.alloc (World.setRow (World.alloc w1 _) w1.heap.size (vals .u32 ws)) _) (w1.heap.size + 1) (vals .u32 hs)) = w2
  have kb0 : Blk .u32 w2 B 60 hs := by rw [← hW2]; exact Blk.row_far (Blk.alloc (Blk.row_far (Blk.alloc hb0 _) _ _ (by omega)) _) _ _ (by omega)
  have kb2 : Blk .u32 w2 (B + 1 + 1) 60 (List.replicate 8 0) := by rw [← hW2]; exact Blk.row_far (Blk.alloc (Blk.row_far (Blk.alloc hb2 _) _ _ (by omega)) _) _ _ (by omega)
  have kw : Blk .u32 w2 C 81 ws := by rw [← hW2, hC]; exact Blk.row_far (Blk.alloc (Blk.row (old := List.replicate 64 0) (blk_new _ _)) _) _ _ (by omega)
  have ks : Blk .u32 w2 (C + 1) 60 hs := by rw [← hW2, hC]; exact Blk.row (old := List.replicate 8 0) (blk_new' _ _ _ (by simp))
  have kB : Below B w w2 := by rw [← hW2]; exact below_setRow (Below.alloc (below_setRow (Below.alloc hbel (by omega) _) (by omega) _) (by simp; omega) _) (by omega) _
  have hBC : B + 3 ≤ C := by omega
  rw [← hC]
  clear hC hW2 hb0 hb1 hb2 hbel hsz
  have HH := Lib.hid hh
  have HG := Lib.hid hG
  clear hh hb hG
  go_loopw [18] (fun v18 w' => ∃ i, i ≤ 64 ∧ v18 = .int .i64 (i : Nat) ∧ A0_ (Blk .u32 w' B 60 hs) ∧ A0_ (Blk .u32 w' (B + 1 + 1) 60 (List.replicate 8 0)) ∧ A0_ (Blk .u32 w' C 81 ws) ∧ A0_ (Blk .u32 w' (C + 1) 60 (st hs ws i)) ∧ A0_ (Below B w w')) (fun v18 _ => (64 - intOf v18).toNat)
  case atStart => exact ⟨0, by omega, rfl, ⟨kb0⟩, ⟨kb2⟩, ⟨kw⟩, ⟨ks⟩, ⟨kB⟩⟩
  case round =>
    clear kb0 kb2 kw ks kB
    obtain ⟨i, hi, rfl, kb0, kb2, kw, ks, kB⟩ := hrel
    by_cases hlt : i < 64
    · have p1 : decide ((i : Int) < 64) = true := decide_eq_true (by omega)
      have p2 : (i : Int) < 64 := by omega
      obtain ⟨s, hse⟩ : ∃ s, s = st hs ws i := ⟨_, rfl⟩
      have hsl : s.length = 8 := by rw [hse]; exact st_len hs ws HL.out i
      have hsM : ∀ x ∈ s, x < M := by rw [hse]; exact st_lt hs ws HH.out i
      rw [← hse] at ks
      obtain ⟨s0, e0⟩ : ∃ x, x = s.getD 0 0 := ⟨_, rfl⟩
      obtain ⟨s1, e1⟩ : ∃ x, x = s.getD 1 0 := ⟨_, rfl⟩
      obtain ⟨s2, e2⟩ : ∃ x, x = s.getD 2 0 := ⟨_, rfl⟩
      obtain ⟨s3, e3⟩ : ∃ x, x = s.getD 3 0 := ⟨_, rfl⟩
      obtain ⟨s4, e4⟩ : ∃ x, x = s.getD 4 0 := ⟨_, rfl⟩
      obtain ⟨s5, e5⟩ : ∃ x, x = s.getD 5 0 := ⟨_, rfl⟩
      obtain ⟨s6, e6⟩ : ∃ x, x = s.getD 6 0 := ⟨_, rfl⟩
      obtain ⟨s7, e7⟩ : ∃ x, x = s.getD 7 0 := ⟨_, rfl⟩
      have c0 := ks.out.cell 0 (by omega)
      rw [← e0] at c0
      have m0 : s0 < M := by rw [e0]; exact getD_lt hsM (by decide) 0
      have c1 := ks.out.cell 1 (by omega)
      rw [← e1] at c1
      have m1 : s1 < M := by rw [e1]; exact getD_lt hsM (by decide) 1
      have c2 := ks.out.cell 2 (by omega)
      rw [← e2] at c2
      have m2 : s2 < M := by rw [e2]; exact getD_lt hsM (by decide) 2
      have c3 := ks.out.cell 3 (by omega)
      rw [← e3] at c3
      have m3 : s3 < M := by rw [e3]; exact getD_lt hsM (by decide) 3
      have c4 := ks.out.cell 4 (by omega)
      rw [← e4] at c4
      have m4 : s4 < M := by rw [e4]; exact getD_lt hsM (by decide) 4
      have c5 := ks.out.cell 5 (by omega)
      rw [← e5] at c5
      have m5 : s5 < M := by rw [e5]; exact getD_lt hsM (by decide) 5
      have c6 := ks.out.cell 6 (by omega)
      rw [← e6] at c6
      have m6 : s6 < M := by rw [e6]; exact getD_lt hsM (by decide) 6
      have c7 := ks.out.cell 7 (by omega)
      rw [← e7] at c7
      have m7 : s7 < M := by rw [e7]; exact getD_lt hsM (by decide) 7
      have E0 := Lib.hid e0
      have L0 := Lib.hid m0
      have E1 := Lib.hid e1
      have L1 := Lib.hid m1
      have E2 := Lib.hid e2
      have L2 := Lib.hid m2
      have E3 := Lib.hid e3
      have L3 := Lib.hid m3
      have E4 := Lib.hid e4
      have L4 := Lib.hid m4
      have E5 := Lib.hid e5
      have L5 := Lib.hid m5
      have E6 := Lib.hid e6
      have L6 := Lib.hid m6
      have E7 := Lib.hid e7
      have L7 := Lib.hid m7
      have T46 := Lib.hid (show ∀ W, Calls Tryd.prog 52 #[.int .u32 (s4 : Int), .int .i64 6] W fun e w' => e = .returned (.int .u32 (rr s4 6 : Int)) ∧ w' = W from fun W => turned_c s4 6 W L4.out (by decide))
      have T411 := Lib.hid (show ∀ W, Calls Tryd.prog 52 #[.int .u32 (s4 : Int), .int .i64 11] W fun e w' => e = .returned (.int .u32 (rr s4 11 : Int)) ∧ w' = W from fun W => turned_c s4 11 W L4.out (by decide))
      have T425 := Lib.hid (show ∀ W, Calls Tryd.prog 52 #[.int .u32 (s4 : Int), .int .i64 25] W fun e w' => e = .returned (.int .u32 (rr s4 25 : Int)) ∧ w' = W from fun W => turned_c s4 25 W L4.out (by decide))
      have T02 := Lib.hid (show ∀ W, Calls Tryd.prog 52 #[.int .u32 (s0 : Int), .int .i64 2] W fun e w' => e = .returned (.int .u32 (rr s0 2 : Int)) ∧ w' = W from fun W => turned_c s0 2 W L0.out (by decide))
      have T013 := Lib.hid (show ∀ W, Calls Tryd.prog 52 #[.int .u32 (s0 : Int), .int .i64 13] W fun e w' => e = .returned (.int .u32 (rr s0 13 : Int)) ∧ w' = W from fun W => turned_c s0 13 W L0.out (by decide))
      have T022 := Lib.hid (show ∀ W, Calls Tryd.prog 52 #[.int .u32 (s0 : Int), .int .i64 22] W fun e w' => e = .returned (.int .u32 (rr s0 22 : Int)) ∧ w' = W from fun W => turned_c s0 22 W L0.out (by decide))
      clear e0 e1 e2 e3 e4 e5 e6 e7 m0 m1 m2 m3 m4 m5 m6 m7
      have cw := kw.out.cell i (by rw [WL.out]; exact hlt)
      have ck := (HG.out.below (by rw [← HB.out]; exact kB.out)).kt i hlt
      obtain ⟨x, hx⟩ : ∃ x, x = ws.getD i 0 := ⟨_, rfl⟩
      obtain ⟨k, hk⟩ : ∃ x, x = kt.getD i 0 := ⟨_, rfl⟩
      rw [← hx] at cw
      rw [← hk] at ck
      have Hse := Lib.hid hse
      have Hx := Lib.hid hx
      have Hk := Lib.hid hk
      clear hse hx hk hsl hsM
      go_wp2
      refine wp_region_still_lit (by kernel_rfl) (by kernel_rfl) ?_
      repeat still_step
      refine wpStill_nil ?_
      change Exit.then _ _ Exit.normal _ wr.drew
      replace c0 : wr.drew.cell? _ = _ := c0
      replace c1 : wr.drew.cell? _ = _ := c1
      replace c2 : wr.drew.cell? _ = _ := c2
      replace c3 : wr.drew.cell? _ = _ := c3
      replace c4 : wr.drew.cell? _ = _ := c4
      replace c5 : wr.drew.cell? _ = _ := c5
      replace c6 : wr.drew.cell? _ = _ := c6
      replace c7 : wr.drew.cell? _ = _ := c7
      replace cw : wr.drew.cell? _ = _ := cw
      replace ck : wr.drew.cell? _ = _ := ck
      have K0 : Hid (Blk .u32 wr.drew B 60 hs) := Lib.hid kb0.out
      have K2 : Hid (Blk .u32 wr.drew (B + 1 + 1) 60 (List.replicate 8 0)) := Lib.hid kb2.out
      have KW : Hid (Blk .u32 wr.drew C 81 ws) := Lib.hid kw.out
      have KS : Hid (Blk .u32 wr.drew (C + 1) 60 s) := Lib.hid ks.out
      have KB : Hid (Below B w wr.drew) := Lib.hid kB.out.drew
      clear kb0 kb2 kw ks kB
      generalize wr.drew = w3 at c0 c1 c2 c3 c4 c5 c6 c7 cw ck K0 K2 KW KS KB ⊢
      go_wp2
      refine wp_region_still_lit (by kernel_rfl) (by kernel_rfl) ?_
      repeat (first | still_step | (refine wpStill_step (fun K hK => ?_); go_simp; (first | with_reducible refine ⟨_, T46.out _, hK _ ?_⟩ | with_reducible refine ⟨_, T411.out _, hK _ ?_⟩ | with_reducible refine ⟨_, T425.out _, hK _ ?_⟩); clear hK K))
      refine wpStill_nil ?_
      change Exit.then _ _ Exit.normal _ w3.drew
      replace c0 : w3.drew.cell? _ = _ := c0
      replace c1 : w3.drew.cell? _ = _ := c1
      replace c2 : w3.drew.cell? _ = _ := c2
      replace c3 : w3.drew.cell? _ = _ := c3
      replace c4 : w3.drew.cell? _ = _ := c4
      replace c5 : w3.drew.cell? _ = _ := c5
      replace c6 : w3.drew.cell? _ = _ := c6
      replace c7 : w3.drew.cell? _ = _ := c7
      replace cw : w3.drew.cell? _ = _ := cw
      replace ck : w3.drew.cell? _ = _ := ck
      replace K0 : Hid (Blk .u32 w3.drew B 60 hs) := Lib.hid K0.out
      replace K2 : Hid (Blk .u32 w3.drew (B + 1 + 1) 60 (List.replicate 8 0)) := Lib.hid K2.out
      replace KW : Hid (Blk .u32 w3.drew C 81 ws) := Lib.hid KW.out
      replace KS : Hid (Blk .u32 w3.drew (C + 1) 60 s) := Lib.hid KS.out
      replace KB : Hid (Below B w w3.drew) := Lib.hid KB.out.drew
      generalize w3.drew = w4 at c0 c1 c2 c3 c4 c5 c6 c7 cw ck K0 K2 KW KS KB ⊢
      have f0 := KS.out.free 0
      have f1 := KS.out.free 1
      have f2 := KS.out.free 2
      have f3 := KS.out.free 3
      have f4 := KS.out.free 4
      have f5 := KS.out.free 5
      have f6 := KS.out.free 6
      have f7 := KS.out.free 7
      go_wp2_with (first | (refine (T02.out _).mono ?_; rintro e w5 ⟨rfl, rfl⟩) | (refine (T013.out _).mono ?_; rintro e w5 ⟨rfl, rfl⟩) | (refine (T022.out _).mono ?_; rintro e w5 ⟨rfl, rfl⟩))
      refine ⟨⟨i + 1, hlt, by simp, ⟨?_⟩, ⟨?_⟩, ⟨?_⟩, ⟨?_⟩, ⟨?_⟩⟩, by simp [intOf]; omega⟩
      · iterate 8 refine Blk.far ?_ _ _ (by show B ≠ C + 1; omega)
        exact K0.out
      · iterate 8 refine Blk.far ?_ _ _ (by show B + 1 + 1 ≠ C + 1; omega)
        exact K2.out
      · iterate 8 refine Blk.far ?_ _ _ (by show C ≠ C + 1; omega)
        exact KW.out
      · have q := blk8 KS.out (by rw [Hse.out]; exact st_len hs ws HL.out i) _ s0 s1 s2 _ s4 s5 s6 _ _ (e0_cast s0 s1 s2 s4 s5 s6 s7 k x L0.out L1.out L2.out L4.out L5.out L6.out) (e4_cast s3 s4 s5 s6 s7 k x L4.out L5.out L6.out)
        have e : [(upr s4 s5 s6 s7 k x % M + dnr s0 s1 s2 % M) % M, s0, s1, s2, (s3 + upr s4 s5 s6 s7 k x % M) % M, s4, s5, s6] = st hs ws (i + 1) := by
          rw [st, ← Hse.out, ← Hk.out, ← Hx.out, rnd, up, dn, ← E0.out, ← E1.out, ← E2.out, ← E3.out, ← E4.out, ← E5.out, ← E6.out, ← E7.out]; rfl
        rw [e] at q
        exact q
      · iterate 8 refine Below.setCell ?_ (by show B ≤ C + 1; omega) _
        exact KB.out
    · have h64 : i = 64 := by omega
      subst h64
      clear hi hlt
      obtain ⟨s, hse⟩ : ∃ s, s = st hs ws 64 := ⟨_, rfl⟩
      have hsl : s.length = 8 := by rw [hse]; exact st_len hs ws HL.out 64
      rw [← hse] at ks
      have hbl : fin hs s 8 = blockL hs bs := by rw [blockL, ← Hws.out, ← hse]
      have SL := Lib.hid hsl
      have HBL := Lib.hid hbl
      clear hse hsl hbl
      go_wp2
      go_loopw [102] (fun v102 w' => ∃ i, i ≤ 8 ∧ v102 = .int .i64 (i : Nat) ∧ A0_ (Blk .u32 w' B 60 (fin hs s i)) ∧ A0_ (Blk .u32 w' (B + 1 + 1) 60 (List.replicate 8 0)) ∧ A0_ (Blk .u32 w' (C + 1) 60 s) ∧ A0_ (Below B w w')) (fun v102 _ => (8 - intOf v102).toNat)
      case atStart => exact ⟨0, by omega, rfl, kb0, kb2, ks, kB⟩
      case round =>
        clear kb0 kb2 ks kB kw
        obtain ⟨i, hi, rfl, kb0, kb2, ks, kB⟩ := hrel
        by_cases hlt : i < 8
        · have p1 : decide ((i : Int) < 8) = true := decide_eq_true (by omega)
          have p2 : (i : Int) < 8 := by omega
          obtain ⟨x, hxe⟩ : ∃ x, x = (fin hs s i).getD i 0 := ⟨_, rfl⟩
          obtain ⟨y, hye⟩ : ∃ y, y = s.getD i 0 := ⟨_, rfl⟩
          have c0 := kb0.out.cell i (by rw [fin_len, HL.out]; exact hlt)
          have c1 := ks.out.cell i (by rw [SL.out]; exact hlt)
          have f0 := kb0.out.free i
          rw [← hxe] at c0
          rw [← hye] at c1
          have Hx := Lib.hid hxe
          have Hy := Lib.hid hye
          clear hxe hye
          go_wp2
          go_region
          have g0 := kb0.out.put' i ((x + y) % M) (by rw [fin_len, HL.out]; exact hlt) (((x : Int) + (y : Int)) % 4294967296) (by rw [M_eq]; simp)
          have g2 := kb2.out.far { block := B, off := i } (.int .u32 (((x : Int) + (y : Int)) % 4294967296)) (by show B + 1 + 1 ≠ B; omega)
          have gs := ks.out.far { block := B, off := i } (.int .u32 (((x : Int) + (y : Int)) % 4294967296)) (by show C + 1 ≠ B; omega)
          have gB := kB.out.setCell (p := { block := B, off := i }) (Nat.le_refl _) (.int .u32 (((x : Int) + (y : Int)) % 4294967296))
          have es : (fin hs s i).set i ((x + y) % M) = fin hs s (i + 1) := by rw [fin, ← Hx.out, ← Hy.out]
          rw [es] at g0
          clear kb0 kb2 ks kB c0 c1 f0 es
          go_wp2
          exact ⟨⟨i + 1, hlt, by simp, ⟨g0⟩, ⟨g2⟩, ⟨gs⟩, ⟨gB.drew⟩⟩, by simp [intOf]; omega⟩
        · have h8 : i = 8 := by omega
          subst h8
          clear hi hlt
          rw [HBL.out] at kb0
          obtain ⟨l, hle⟩ : ∃ l, l = blockL hs bs := ⟨_, rfl⟩
          have hll : l.length = 8 := by rw [hle]; exact blockL_len hs bs HL.out
          rw [← hle] at kb0
          have Hll := Lib.hid hll
          have Hle := Lib.hid hle
          clear hll hle
          go_wp2_with (first | ((with_reducible refine gD (N := 114) rfl ?_); refine wpList_load_blk rfl 60 (.tmp 2) rfl .u32 B l 60 _ rfl kb0.out Tryd.underlying60 rfl (by rw [Hll.out]; exact size_eight) ?_) | ((with_reducible refine gS (p := 4) rfl ?_); refine wpList_store_blk rfl 60 (.tmp 4) (.tmp 114) rfl .u32 (B + 1 + 1) (List.replicate 8 0) l 60 rfl rfl kb2.out (by rw [Hll.out]; exact size_eight) (by rw [Hll.out]; rfl) ?_))
          have g1 := kb2.out.row (l := l)
          have hload := run_loadVar_row (P := Tryd.prog) _ (B + 1 + 1) 60 60 (vals .u32 l) (0, 0) _ g1 Tryd.underlying60 rfl (by rw [vals_size, Hll.out]; exact size_eight)
          have gB := below_setRow kB.out (show B ≤ B + 1 + 1 by omega) (vals .u32 l)
          refine bodyPost_ret (v := .agg (vals .u32 l)) ?_ rfl ⟨by rw [Hle.out], by rw [← HB.out]; exact gB⟩
          simp [results, Tryd.results34, Act.put, asAddr, hload]
end Go.Proofs.YtklakmooaffjpaaDoor.DgsB
end

section
-- Written by a program of this session for this seat. Not trusted: Lean checks it.
namespace Go.Proofs.YtklakmooaffjpaaDoor.PDgs
open Go.RowKit Go.Proofs.YtklakmooaffjpaaDoorW.PrintWords Go.Proofs.YtklakmooaffjpaaDoorW.PrintLast Go.Proofs.YtklakmooaffjpaaDoorW.PrintMore
attribute [local go_sem] max2_int min2_int max_two min_two max_three min_three max_four min_four   -- for this text's walks alone
set_option linter.unusedVariables false
set_option linter.unusedSimpArgs false
open Go.Proofs.YtklakmooaffjpaaDoor.HW



def errW : Option Int → Value
 | none => .nilIface
 | some c => .iface 0 (.int .i64 c)
theorem errW_none : errW none = .nilIface := rfl
theorem errW_some (c : Int) : errW (some c) = .iface 0 (.int .i64 c) := rfl

theorem info5 : (Tryd.prog.info? 5).map (fun i => (i.zero, i.size, i.bytes)) = some (some (.int .u8 0), 1, 1) := by kernel_rfl
theorem info83 : (Tryd.prog.info? 83).map (fun i => (i.zero, i.size, i.bytes)) = some (some (.int .u64 0), 1, 8) := by kernel_rfl
-- the values' own types

end Go.Proofs.YtklakmooaffjpaaDoor.PDgs
end
