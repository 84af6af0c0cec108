/-
  DiskSurvives: what was synced is there behind each crash; of what waited each sector is the old one or the new one.
-/
import Derived.Test.YtbmhfmkfkdbmdaaDskY
import Derived.Deep.DeepMust
namespace Go.Proofs.Ytbmhfmkfkdbmdaa.Dsk4
open Go.RowKit Go.Proofs.YtbmhfmkfkdbmdaaW.PrintWords Go.Proofs.YtbmhfmkfkdbmdaaW.PrintLast Go.Proofs.YtbmhfmkfkdbmdaaW.PrintMore Go.Proofs.Ytbmhfmkfkdbmdaa.DskR Go.Proofs.Ytbmhfmkfkdbmdaa.DskQ Go.Proofs.Ytbmhfmkfkdbmdaa.DskX Go.Proofs.Ytbmhfmkfkdbmdaa.DskE Go.Proofs.Ytbmhfmkfkdbmdaa.Dsk4P
set_option linter.unusedVariables false
/-- What the first loop keeps. -/
structure Inv (x : Dk) (i : Nat) (old : Nat → Int) : Prop where
  len : x.s.length = 4
  fuse : x.fuse = -1
  down : x.down = false
  q : x.q.length ≤ i
  at_ : ∀ p ∈ x.q, 0 ≤ p.1 ∧ p.1 < 4
  cur : cur x = S4 old
def put (now : Nat → Int) (m : Nat) (b : Int) (k : Nat) : Int := if k = m then b else now k
theorem inv_start : Inv ⟨S4 (fun _ => 0), [], 4, -1, false⟩ 0 (fun _ => 0) := ⟨rfl, rfl, rfl, Nat.le_refl _, fun _ h => (nomatch h), rfl⟩
theorem Inv.write {x : Dk} {i : Nat} {now : Nat → Int} (h : Inv x i now) (m : Nat) (hm : m < 4) (b : Int) :
    ∃ x', DskV.wr x (m : Int) (DskP.fillB b) = (0, x') ∧ Inv x' (i + 1) (put now m b) := by
  refine ⟨{ x with q := x.q ++ [((m : Int), DskP.fillB b)] }, ?_, h.len, h.fuse, h.down, by simp; exact h.q, ?_, ?_⟩
  · unfold DskV.wr
    rw [if_neg (by rw [h.down]; decide), if_neg (by rw [DskP.fill_size]; omega), if_neg (by rw [h.len]; omega), if_neg (by rw [h.fuse]; decide), if_neg (by rw [h.fuse]; decide)]
  · intro p hp
    rcases List.mem_append.1 hp with hp | hp
    · exact h.at_ p hp
    · simp only [List.mem_cons, List.not_mem_nil, or_false] at hp
      subst hp
      exact ⟨by simp, by show (m : Int) < 4; omega⟩
  · show DskQ.putAll x.s (x.q ++ [((m : Int), DskP.fillB b)]) = _
    rw [put_snoc, show DskQ.putAll x.s x.q = _ from h.cur]
    match m, hm with
    | 0, _ => rfl
    | 1, _ => rfl
    | 2, _ => rfl
    | 3, _ => rfl
theorem Inv.sync {x : Dk} {i : Nat} {now : Nat → Int} (h : Inv x i now) : DskT.sy x = (0, ⟨S4 now, [], x.cap, -1, false⟩) := by
  unfold DskT.sy
  rw [if_neg (by rw [h.down]; decide), if_neg (by rw [h.fuse]; decide), if_neg (by rw [h.fuse]; decide)]
  have e : DskQ.putAll x.s x.q = S4 now := h.cur
  rw [e, h.fuse, h.down]
theorem wr_next (old : Nat → Int) (y : List (Int × Int)) (c : Int) (i : Nat) (a1 a2 : Int) (hy : y[i]? = some (a1, a2)) (m : Nat) (hm : (m : Int) = a1 % 4) (hm4 : m < 4) :
    DskV.wr ⟨S4 old, (qs y).take i, c, -1, false⟩ (m : Int) (DskP.fillB a2) = (0, ⟨S4 old, (qs y).take (i + 1), c, -1, false⟩) := by
  unfold DskV.wr
  rw [if_neg (fun h => by cases h), if_neg (by rw [DskP.fill_size]; omega), if_neg (by show ¬ ¬ ((0 : Int) ≤ m ∧ (m : Int) < ((S4 old).length : Int)); simp [S4]; omega), if_neg (show ¬ ((-1 : Int) = 0) by decide), if_neg (show ¬ ((-1 : Int) > 0) by decide)]
  have hi := (List.getElem?_eq_some_iff.1 hy).1
  rw [take_snoc (qs y) i ((m : Int), DskP.fillB a2) (by unfold qs; rw [List.length_map]; exact hi)]
  have e : (qs y).getD i ((m : Int), DskP.fillB a2) = ((m : Int), DskP.fillB a2) := by
    unfold qs
    rw [List.getD_eq_getElem?_getD, List.getElem?_map, hy, hm]; rfl
  rw [e]
theorem cells_put (now : Nat → Int) (m : Nat) (hm : m < 4) (b : Int) : (#[Value.int .u8 (now 0), Value.int .u8 (now 1), Value.int .u8 (now 2), Value.int .u8 (now 3)]).setIfInBounds m (.int .u8 b) = #[Value.int .u8 (put now m b 0), Value.int .u8 (put now m b 1), Value.int .u8 (put now m b 2), Value.int .u8 (put now m b 3)] := by
  match m, hm with
  | 0, _ => rfl
  | 1, _ => rfl
  | 2, _ => rfl
  | 3, _ => rfl
theorem cell4 {w : World} {g : Nat} {t : TypeId} {now : Nat → Int} (h : w.heap[g]? = some (.cells #[Value.int .u8 (now 0), Value.int .u8 (now 1), Value.int .u8 (now 2), Value.int .u8 (now 3)] t (0, 0))) (k : Nat) (hk : k < 4) : w.cell? ⟨g, k, none⟩ = some (.int .u8 (now k)) := by
  rw [blk_cell h k]
  match k, hk with
  | 0, _ => rfl
  | 1, _ => rfl
  | 2, _ => rfl
  | 3, _ => rfl
theorem J.drew {W w : World} {D : Nat} {x : Dk} (h : J W D x w) : J W D x w.drew := ⟨let ⟨vs, vq, hd⟩ := h.1; ⟨vs, vq, hd.drew⟩, h.2.drew⟩
theorem k_crash {W w : World} {D : Nat} {x x' : Dk} (h : J W D x w) (hq : x.q.length < 1000000) (hg : ∀ p ∈ x.q, 0 ≤ p.1 ∧ p.1 < x.s.length) (hs6 : ∀ p ∈ x.s, p.size = 256) (hq6 : ∀ p ∈ x.q, p.2.size = 256) (CA : Option Addr) (cc : Nat) (l : List Int) (hl : ∀ c ∈ l, 0 ≤ c ∧ c < 256) (hr : Kd.C (Kd.int .u8) w CA l.length l)
    (hsep : 0 < l.length → ∀ ad, CA = some ad → ad.block < W.heap.size) (e : DskC.crash x l = x') :
    Calls Try.prog 16 #[.pointer (some ⟨D, 0, none⟩), .slice CA l.length cc] w fun e w' => e = .returned (.tuple #[]) ∧ J W D x' w' ∧ Kp w w' := by
  obtain ⟨⟨vs, vq, hd⟩, hb⟩ := h
  refine (DskC.crash_c hd hq hg hs6 hq6 CA cc l hl hr (fun h0 ad ha => ?_)).mono ?_
  · have h1 := hsep h0 ad ha
    exact ⟨fun hk => Nat.not_lt.2 (hd.own_ge hk) h1, Nat.lt_of_lt_of_le h1 hb.size⟩
  · rintro e' w' ⟨rfl, vs', h1, h2, _⟩
    rw [e] at h1
    exact ⟨rfl, ⟨⟨vs', _, h1⟩, hb.trans (h2.below hb.size (fun k hk => hd.own_ge hk))⟩, Kp.of_fr hd h2⟩
/-- A slice of pairs of bytes. -/
def Prs (w : World) (A : Option Addr) (n : Nat) (z : List (Int × Int)) : Prop := 0 < n → ∃ b o, A = some ⟨b, o, none⟩ ∧ b < w.heap.size ∧ ∀ j p, z[j]? = some p → w.cell? ⟨b, o + j * 2, none⟩ = some (.int .u8 p.1) ∧ w.cell? ⟨b, o + j * 2 + 1, none⟩ = some (.int .u8 p.2)
def Rng (z : List (Int × Int)) : Prop := ∀ p ∈ z, 0 ≤ p.1 ∧ p.1 < 256 ∧ 0 ≤ p.2 ∧ p.2 < 256
theorem rem4 (a : Int) (h : 0 ≤ a ∧ a < 256) : ∃ m : Nat, (wrap64 a).tmod 4 = (m : Int) ∧ a.tmod 4 = (m : Int) ∧ m < 4 ∧ (m : Int) = a % 4 := by
  have e : wrap64 a = a := by unfold wrap64; omega
  rw [e, Int.tmod_eq_emod_of_nonneg h.1]
  exact ⟨(a % 4).toNat, by omega, by omega, by omega, by omega⟩
theorem i64_same (a : Int) (h : 0 ≤ a ∧ a < 256) : IntKind.i64.wrap a = a := by
  simp [IntKind.wrap, IntKind.signed, IntKind.bits]
  omega
theorem bit8 (c : Int) (hc : 0 ≤ c ∧ c < 256) (k : Nat) (hk : k < 4) : (Go.bits BinOp.and IntKind.u8 (c / 2 ^ min (IntKind.u64.wrap (k : Int)).toNat 8) 1 = 1) = (c.toNat / 2 ^ k % 2 = 1) := by
  obtain ⟨n, rfl⟩ : ∃ n : Nat, c = (n : Int) := ⟨c.toNat, by omega⟩
  have e : (IntKind.u64.wrap (k : Int)).toNat = k := by
    match k, hk with
    | 0, _ => rfl
    | 1, _ => rfl
    | 2, _ => rfl
    | 3, _ => rfl
  rw [e, show min k 8 = k by omega, Int.toNat_natCast]
  have h1 := DskU.bit1 (n / 2 ^ k) (Nat.lt_of_le_of_lt (Nat.div_le_self _ _) (by omega))
  have e2 : ((n : Int) / 2 ^ k) = ((n / 2 ^ k : Nat) : Int) := by simp
  rw [e2]
  refine propext ⟨fun h => ?_, fun h => ?_⟩
  · rw [h] at h1; exact of_decide_eq_true h1.symm
  · rw [decide_eq_true h] at h1; exact beq_iff_eq.1 h1
set_option maxHeartbeats 16000000 in
set_option maxRecDepth 100000 in
theorem walk (A1 : Option Addr) (n1 c1 : Nat) (z : List (Int × Int)) (A2 : Option Addr) (n2 c2 : Nat) (y : List (Int × Int)) (A3 : Option Addr) (c3 : Nat) (ch : List Int) (w : World) (hz : z.length = n1) (hc1 : Prs w A1 n1 z) (hr1 : Rng z) (hy : y.length = n2) (hc2 : Prs w A2 n2 y) (hr2 : Rng y)
    (hk3 : Kd.C (Kd.int .u8) w A3 ch.length ch) (hr3 : ∀ c ∈ ch, 0 ≤ c ∧ c < 256) (hc3 : 0 < ch.length → ∃ b o, A3 = some ⟨b, o, none⟩ ∧ b < w.heap.size ∧ ∀ j c, ch[j]? = some c → w.cell? ⟨b, o + j, none⟩ = some (.int .u8 c)) (hs3 : 0 < ch.length → ∀ ad, A3 = some ad → ad.block < w.heap.size) :
    Calls Try.prog 3 #[.slice A1 n1 c1, .slice A2 n2 c2, .slice A3 ch.length c3] w fun e w' => e = .returned (.bool true) ∧ Below w.heap.size w w' := by
  obtain ⟨n3, hn3⟩ : ∃ n3, n3 = ch.length := ⟨_, rfl⟩
  have HN3 := Aside0.mk hn3
  have HZ := Aside0.mk hz
  have HC1 := Aside0.mk hc1
  have HR1 := Aside0.mk hr1
  have HY := Aside0.mk hy
  have HC2 := Aside0.mk hc2
  have HR2 := Aside0.mk hr2
  have HK3 := Aside0.mk hk3
  have HR3 := Aside0.mk hr3
  have HC3 := Aside0.mk hc3
  have HS3 := Aside0.mk hs3
  rw [← hn3]
  clear hz hc1 hr1 hy hc2 hr2 hk3 hr3 hc3 hs3 hn3
  go_enter Try.func3, Try.ntmps3
  by_cases h1 : n1 > 30
  · have q1 : decide ((n1 : Int) > 30) = true := decide_eq_true (by omega)
    clear h1
    go_wp2_with (go_at_call 10; refine (DskY.wakes_c _).mono ?_; rintro e w1 ⟨rfl, hb⟩; have HB := Aside0.mk hb; clear hb)
    go_ret
    exact ⟨rfl, HB.out⟩
  have q1 : decide ((n1 : Int) > 30) = false := decide_eq_false (by omega)
  by_cases h2 : n2 > 30
  · have q2 : decide ((n2 : Int) > 30) = true := decide_eq_true (by omega)
    clear h1 h2
    go_wp2_with (go_at_call 10; refine (DskY.wakes_c _).mono ?_; rintro e w1 ⟨rfl, hb⟩; have HB := Aside0.mk hb; clear hb)
    go_ret
    exact ⟨rfl, HB.out⟩
  have q2 : decide ((n2 : Int) > 30) = false := decide_eq_false (by omega)
  by_cases h3 : n3 > 60
  · have q3 : decide ((n3 : Int) > 60) = true := decide_eq_true (by omega)
    clear h1 h2 h3
    go_wp2_with (go_at_call 10; refine (DskY.wakes_c _).mono ?_; rintro e w1 ⟨rfl, hb⟩; have HB := Aside0.mk hb; clear hb)
    go_ret
    exact ⟨rfl, HB.out⟩
  have q3 : decide ((n3 : Int) > 60) = false := decide_eq_false (by omega)
  have HN := Aside0.mk (show n1 ≤ 30 ∧ n2 ≤ 30 ∧ n3 ≤ 60 by omega)
  clear h1 h2 h3
  go_wp2_with (go_at_call 11; refine (new_c 4 (by decide) (by decide) _).mono ?_; rintro e w1 ⟨D, rfl, hJ⟩; have HJ := Aside0.mk hJ; clear hJ)
  go_wp2_with (go_at_call 12; refine (j_grow HJ.out (by simp) (by simp) (by simp) 4 (show _ = ((0 : Int), (⟨S4 (fun _ => 0), [], 4, -1, false⟩ : Dk)) by unfold S4; rw [← DskYF.pg0_fill]; rfl)).mono ?_; rintro e w2 ⟨rfl, hj⟩; have HJ2 := Aside0.mk hj; clear hj HJ)
  obtain ⟨g, hg⟩ : ∃ g, g = w2.heap.size := ⟨_, rfl⟩
  have HGE := Aside0.mk (show w.heap.size ≤ g by rw [hg]; exact HJ2.out.2.size)
  have HJ3 := Aside0.mk (HJ2.out.below (below_alloc (Below.refl _ _) (.cells #[.int .u8 0, .int .u8 0, .int .u8 0, .int .u8 0] 30)))
  have HB3 : Aside0 ((w2.alloc (.cells #[.int .u8 0, .int .u8 0, .int .u8 0, .int .u8 0] 30)).heap[g]? = some (.cells #[.int .u8 0, .int .u8 0, .int .u8 0, .int .u8 0] 30 (0, 0))) := Aside0.mk (by rw [hg]; exact blk_new _ _)
  rw [← hg]
  clear hg
  go_loopg [10] (n1 + 1) (fun gk v10 w' => ∃ (i : Nat) (x : Dk) (old : Nat → Int), v10 = .int .i64 (i : Int) ∧ Aside0 (gk + i = n1 + 1 ∧ i ≤ n1) ∧ Aside0 (J w D x w') ∧ Aside0 (Inv x i old) ∧ Aside0 (w'.heap[g]? = some (.cells #[.int .u8 (old 0), .int .u8 (old 1), .int .u8 (old 2), .int .u8 (old 3)] 30 (0, 0))))
  case atStart => exact ⟨0, _, fun _ => 0, rfl, ⟨rfl, Nat.zero_le _⟩, HJ3, ⟨inv_start⟩, HB3⟩
  case round =>
    clear HJ3 HB3 HJ2
    obtain ⟨i, x, old, rfl, HK, HJ, HI, HB⟩ := hrel
    by_cases hi : i < n1
    · have qi : (i < n1) = True := eq_true hi
      cases gk with
      | zero => exact absurd HK.out (by omega)
      | succ k1_ =>
      obtain ⟨b, o, rfl, hb, hcc⟩ := HC1.out (by omega)
      obtain ⟨⟨a1, a2⟩, hp⟩ : ∃ p, z[i]? = some p := ⟨_, List.getElem?_eq_getElem (by rw [HZ.out]; exact hi)⟩
      have r := HR1.out _ (List.mem_of_getElem? hp)
      obtain ⟨e1, e2⟩ := hcc i _ hp
      have E1 := Aside0.mk e1
      have E2 := Aside0.mk e2
      have HBB := Aside0.mk hb
      have HP := Aside0.mk hp
      have HRr := Aside0.mk r
      obtain ⟨m, hm, hm8, hm4, hme⟩ := rem4 a1 ⟨r.1, r.2.1⟩
      have hmw : (IntKind.i64.wrap a1).tmod 4 = (m : Int) := by rw [i64_same a1 ⟨r.1, r.2.1⟩]; exact hm8
      have qm : ((m : Int) < 4) = True := eq_true (by omega)
      have HM := Aside0.mk hm4
      have HME := Aside0.mk hme
      have HI1 := Aside0.mk hi
      have d1 := (HJ.out.2.cell (p := ⟨b, o + i * 2, none⟩) hb).trans e1
      have d2 := (HJ.out.2.cell (p := ⟨b, o + i * 2 + 1, none⟩) hb).trans e2
      simp only at d1 d2
      obtain ⟨x6, hw, hi6⟩ := HI.out.write m hm4 a2
      have HW := Aside0.mk hw
      have HI6 := Aside0.mk hi6
      have HX := Aside0.mk (show x.q.length < 1000000 from by have := HI.out.q; have := HK.out.2; have := HN.out; omega)
      clear hi e1 e2 hcc hb hp r hw hi6 hm4 hme
      go_wp2_with fail
      refine start_ (n := 16) (S := (fun w' => w'.cell? ⟨b, o + i * 2, none⟩ = some (.int .u8 a1) ∧ w'.cell? ⟨b, o + i * 2 + 1, none⟩ = some (.int .u8 a2))) (ds := []) #[false, false, false, false, false, false, false, false, false, false, false, false, false, false, false, false] (by kernel_rfl) rfl rfl ⟨d1, d2⟩ (fun hHeld => ?_)
      have HJd := Aside0.mk (J.drew HJ.out)
      have HBd : Aside0 (wr.drew.heap[g]? = some (.cells #[.int .u8 (old 0), .int .u8 (old 1), .int .u8 (old 2), .int .u8 (old 3)] 30 (0, 0))) := HB
      refine pure_ (i := 0) (N := (some 53)) (v := ?_) (a' := ?_) #[true, false, false, false, false, false, false, false, false, false, false, false, false, false, false, false] rfl rfl (by kernel_rfl) (fun _ _ _ h => h) (Or.inl ⟨by rfl, ?_⟩) ?_ ?_
      rotate_left
      · intro w'
        go_simp
        with_reducible rfl
      rotate_left
      · simp only [Act.put, List.setIfInBounds_toArray, List.set_cons_zero, List.set_cons_succ]
        rfl
      refine pure_ (i := 1) (N := (some 54)) (v := ?_) (a' := ?_) #[true, true, false, false, false, false, false, false, false, false, false, false, false, false, false, false] rfl rfl (by kernel_rfl) (fun _ _ _ h => h) (Or.inl ⟨by rfl, ?_⟩) ?_ ?_
      rotate_left
      · intro w'
        go_simp
        with_reducible rfl
      rotate_left
      · simp only [Act.put, List.setIfInBounds_toArray, List.set_cons_zero, List.set_cons_succ]
        rfl
      refine pure_ (i := 2) (N := (some 55)) (v := ?_) (a' := ?_) #[true, true, true, false, false, false, false, false, false, false, false, false, false, false, false, false] rfl rfl (by kernel_rfl) (fun _ _ _ h => h) (Or.inl ⟨by rfl, ?_⟩) ?_ ?_
      rotate_left
      · intro w'
        go_simp
        with_reducible rfl
      rotate_left
      · simp only [Act.put, List.setIfInBounds_toArray, List.set_cons_zero, List.set_cons_succ]
        rfl
      refine pure_ (i := 3) (N := (some 56)) (v := ?_) (a' := ?_) #[true, true, true, true, false, false, false, false, false, false, false, false, false, false, false, false] rfl rfl (by kernel_rfl) (fun _ _ _ h => h) (Or.inl ⟨by rfl, ?_⟩) ?_ ?_
      rotate_left
      · intro w'
        go_simp
        with_reducible rfl
      rotate_left
      · simp only [Act.put, List.setIfInBounds_toArray, List.set_cons_zero, List.set_cons_succ]
        rfl
      refine pure_ (i := 4) (N := (some 57)) (v := ?_) (a' := ?_) #[true, true, true, true, true, false, false, false, false, false, false, false, false, false, false, false] rfl rfl (by kernel_rfl) (fun _ _ _ h => h) (Or.inl ⟨by rfl, ?_⟩) ?_ ?_
      rotate_left
      · intro w'
        go_simp
        with_reducible rfl
      rotate_left
      · simp only [Act.put, List.setIfInBounds_toArray, List.set_cons_zero, List.set_cons_succ]
        rfl
      refine take_ (i := 5) (N := some 58) (v := ?_) (a' := ?_) #[true, true, true, true, true, true, false, false, false, false, false, false, false, false, false, false] rfl rfl (by kernel_rfl) (fun _ _ _ h => h) (Or.inl ⟨by rfl, ?_⟩) hHeld ?_ ?_
      rotate_left
      · rintro w' ⟨s0, s1⟩
        go_simp
        with_reducible rfl
      rotate_left
      · simp only [Act.put, List.setIfInBounds_toArray, List.set_cons_zero, List.set_cons_succ]
        rfl
      refine pure_ (i := 6) (N := (some 59)) (v := ?_) (a' := ?_) #[true, true, true, true, true, true, true, false, false, false, false, false, false, false, false, false] rfl rfl (by kernel_rfl) (fun _ _ _ h => h) (Or.inl ⟨by rfl, ?_⟩) ?_ ?_
      rotate_left
      · intro w'
        go_simp
        with_reducible rfl
      rotate_left
      · simp only [Act.put, List.setIfInBounds_toArray, List.set_cons_zero, List.set_cons_succ]
        rfl
      refine pure_ (i := 7) (N := (some 60)) (v := ?_) (a' := ?_) #[true, true, true, true, true, true, true, true, false, false, false, false, false, false, false, false] rfl rfl (by kernel_rfl) (fun _ _ _ h => h) (Or.inl ⟨by rfl, ?_⟩) ?_ ?_
      rotate_left
      · intro w'
        go_simp
        with_reducible rfl
      rotate_left
      · simp only [Act.put, List.setIfInBounds_toArray, List.set_cons_zero, List.set_cons_succ]
        rfl
      refine pure_ (i := 8) (N := (some 61)) (v := ?_) (a' := ?_) #[true, true, true, true, true, true, true, true, true, false, false, false, false, false, false, false] rfl rfl (by kernel_rfl) (fun _ _ _ h => h) (Or.inl ⟨by rfl, ?_⟩) ?_ ?_
      rotate_left
      · intro w'
        go_simp
        with_reducible rfl
      rotate_left
      · simp only [Act.put, List.setIfInBounds_toArray, List.set_cons_zero, List.set_cons_succ]
        rfl
      refine pure_ (i := 9) (N := (some 62)) (v := ?_) (a' := ?_) #[true, true, true, true, true, true, true, true, true, true, false, false, false, false, false, false] rfl rfl (by kernel_rfl) (fun _ _ _ h => h) (Or.inl ⟨by rfl, ?_⟩) ?_ ?_
      rotate_left
      · intro w'
        go_simp
        with_reducible rfl
      rotate_left
      · simp only [Act.put, List.setIfInBounds_toArray, List.set_cons_zero, List.set_cons_succ]
        rfl
      refine pure_ (i := 10) (N := (some 63)) (v := ?_) (a' := ?_) #[true, true, true, true, true, true, true, true, true, true, true, false, false, false, false, false] rfl rfl (by kernel_rfl) (fun _ _ _ h => h) (Or.inl ⟨by rfl, ?_⟩) ?_ ?_
      rotate_left
      · intro w'
        go_simp
        with_reducible rfl
      rotate_left
      · simp only [Act.put, List.setIfInBounds_toArray, List.set_cons_zero, List.set_cons_succ]
        rfl
      refine pure_ (i := 11) (N := (some 64)) (v := ?_) (a' := ?_) #[true, true, true, true, true, true, true, true, true, true, true, true, false, false, false, false] rfl rfl (by kernel_rfl) (fun _ _ _ h => h) (Or.inl ⟨by rfl, ?_⟩) ?_ ?_
      rotate_left
      · intro w'
        go_simp
        with_reducible rfl
      rotate_left
      · simp only [Act.put, List.setIfInBounds_toArray, List.set_cons_zero, List.set_cons_succ]
        rfl
      refine take_ (i := 12) (N := some 65) (v := ?_) (a' := ?_) #[true, true, true, true, true, true, true, true, true, true, true, true, true, false, false, false] rfl rfl (by kernel_rfl) (fun _ _ _ h => h) (Or.inl ⟨by rfl, ?_⟩) hHeld ?_ ?_
      rotate_left
      · rintro w' ⟨s0, s1⟩
        go_simp
        with_reducible rfl
      rotate_left
      · simp only [Act.put, List.setIfInBounds_toArray, List.set_cons_zero, List.set_cons_succ]
        rfl
      refine one_ (i := 13) (N := some 66) #[true, true, true, true, true, true, true, true, true, true, true, true, true, true, false, false] rfl rfl (by kernel_rfl) (by decide) (fun K hK => ?_)
      refine goes_ Try.func14 (by kernel_rfl) rfl #[.int .u8 a2] (by rfl) rfl rfl (by (try simp only [List.map_toArray, List.map_cons, List.map_nil]); first | done | rfl) ?_
      refine (DskP.fill_c a2 _).mono ?_
      rintro e w5 ⟨rfl, hb⟩
      refine ⟨_, rfl, ?_⟩
      have HJ5 := Aside0.mk (HJd.out.below hb)
      have HB5 := Aside0.mk (blk_below HBd.out hb)
      clear hb
      have d1 := (HJ5.out.2.cell (p := ⟨b, o + i * 2, none⟩) HBB.out).trans E1.out
      have d2 := (HJ5.out.2.cell (p := ⟨b, o + i * 2 + 1, none⟩) HBB.out).trans E2.out
      refine hK.out _ _ ⟨d1, d2⟩ (fun hHeld => ?_)
      clear hK K
      refine norm_ (a' := ?_) ?_ ?_
      rotate_left
      · show Act.put _ (some 66) _ = _
        simp only [Act.put, List.setIfInBounds_toArray, List.set_cons_zero, List.set_cons_succ]
        rfl
      refine one_ (i := 14) (N := some 67) #[true, true, true, true, true, true, true, true, true, true, true, true, true, true, true, false] rfl rfl (by kernel_rfl) (by decide) (fun K hK => ?_)
      refine goes_ Try.func13 (by kernel_rfl) rfl #[.pointer (some ⟨D, 0, none⟩), .int .i64 (m : Int), .string (DskP.fillB a2)] (by rfl) rfl rfl (by (try simp only [List.map_toArray, List.map_cons, List.map_nil]); first | done | rfl) ?_
      refine (k_write HJ5.out HX.out (by rw [HI.out.fuse]; decide) _ _ HW.out).mono ?_
      rintro e w6 ⟨rfl, hj, hkp⟩
      refine ⟨_, rfl, ?_⟩
      have HJ6 := Aside0.mk hj
      have HB6 := Aside0.mk (hkp g _ _ _ (by decide) (by decide) (by decide) HB5.out)
      clear hj hkp d1 d2 HJd HBd
      have d1 := (HJ6.out.2.cell (p := ⟨b, o + i * 2, none⟩) HBB.out).trans E1.out
      have d2 := (HJ6.out.2.cell (p := ⟨b, o + i * 2 + 1, none⟩) HBB.out).trans E2.out
      refine hK.out _ _ ⟨d1, d2⟩ (fun hHeld => ?_)
      clear hK K
      refine norm_ (a' := ?_) ?_ ?_
      rotate_left
      · show Act.put _ (some 67) _ = _
        simp only [Act.put, List.setIfInBounds_toArray, List.set_cons_zero, List.set_cons_succ]
        rfl
      refine pure_ (i := 15) (N := (some 68)) (v := ?_) (a' := ?_) #[true, true, true, true, true, true, true, true, true, true, true, true, true, true, true, true] rfl rfl (by kernel_rfl) (fun _ _ _ h => h) (Or.inl ⟨by rfl, ?_⟩) ?_ ?_
      rotate_left
      · intro w'
        go_simp
        with_reducible rfl
      rotate_left
      · simp only [Act.put, List.setIfInBounds_toArray, List.set_cons_zero, List.set_cons_succ]
        rfl
      refine done_ (by kernel_rfl) ?_
      go_wp2_with fail
      refine start_ (n := 13) (S := (fun w' => w'.cell? ⟨b, o + i * 2, none⟩ = some (.int .u8 a1) ∧ w'.cell? ⟨b, o + i * 2 + 1, none⟩ = some (.int .u8 a2))) (ds := [12]) #[false, false, false, false, false, false, false, false, false, false, false, false, false] (by kernel_rfl) rfl rfl ⟨d1, d2⟩ (fun hHeld => ?_)
      obtain ⟨w7, hw7⟩ : ∃ w7, w7 = w6.drew := ⟨_, rfl⟩
      have HJ7 : Aside0 (J w D x6 w7) := Aside0.mk (by rw [hw7]; exact J.drew HJ6.out)
      have HB7 : Aside0 (w7.heap[g]? = some (.cells #[.int .u8 (old 0), .int .u8 (old 1), .int .u8 (old 2), .int .u8 (old 3)] 30 (0, 0))) := Aside0.mk (by rw [hw7]; exact HB6.out)
      rw [← hw7] at hHeld ⊢
      clear hw7 d1 d2
      have cm := cell4 HB7.out m HM.out
      have fm := blk_frozen HB7.out m
      refine pure_ (i := 0) (N := (some 69)) (v := ?_) (a' := ?_) #[true, false, false, false, false, false, false, false, false, false, false, false, false] rfl rfl (by kernel_rfl) (fun _ _ _ h => h) (Or.inl ⟨by rfl, ?_⟩) ?_ ?_
      rotate_left
      · intro w'
        go_simp
        with_reducible rfl
      rotate_left
      · simp only [Act.put, List.setIfInBounds_toArray, List.set_cons_zero, List.set_cons_succ]
        rfl
      refine pure_ (i := 1) (N := (some 70)) (v := ?_) (a' := ?_) #[true, true, false, false, false, false, false, false, false, false, false, false, false] rfl rfl (by kernel_rfl) (fun _ _ _ h => h) (Or.inl ⟨by rfl, ?_⟩) ?_ ?_
      rotate_left
      · intro w'
        go_simp
        with_reducible rfl
      rotate_left
      · simp only [Act.put, List.setIfInBounds_toArray, List.set_cons_zero, List.set_cons_succ]
        rfl
      refine pure_ (i := 2) (N := (some 71)) (v := ?_) (a' := ?_) #[true, true, true, false, false, false, false, false, false, false, false, false, false] rfl rfl (by kernel_rfl) (fun _ _ _ h => h) (Or.inl ⟨by rfl, ?_⟩) ?_ ?_
      rotate_left
      · intro w'
        go_simp
        with_reducible rfl
      rotate_left
      · simp only [Act.put, List.setIfInBounds_toArray, List.set_cons_zero, List.set_cons_succ]
        rfl
      refine pure_ (i := 3) (N := (some 72)) (v := ?_) (a' := ?_) #[true, true, true, true, false, false, false, false, false, false, false, false, false] rfl rfl (by kernel_rfl) (fun _ _ _ h => h) (Or.inl ⟨by rfl, ?_⟩) ?_ ?_
      rotate_left
      · intro w'
        go_simp
        with_reducible rfl
      rotate_left
      · simp only [Act.put, List.setIfInBounds_toArray, List.set_cons_zero, List.set_cons_succ]
        rfl
      refine take_ (i := 4) (N := some 73) (v := ?_) (a' := ?_) #[true, true, true, true, true, false, false, false, false, false, false, false, false] rfl rfl (by kernel_rfl) (fun _ _ _ h => h) (Or.inl ⟨by rfl, ?_⟩) hHeld ?_ ?_
      rotate_left
      · rintro w' ⟨s0, s1⟩
        go_simp
        with_reducible rfl
      rotate_left
      · simp only [Act.put, List.setIfInBounds_toArray, List.set_cons_zero, List.set_cons_succ]
        rfl
      refine pure_ (i := 5) (N := (some 74)) (v := ?_) (a' := ?_) #[true, true, true, true, true, true, false, false, false, false, false, false, false] rfl rfl (by kernel_rfl) (fun _ _ _ h => h) (Or.inl ⟨by rfl, ?_⟩) ?_ ?_
      rotate_left
      · intro w'
        go_simp
        with_reducible rfl
      rotate_left
      · simp only [Act.put, List.setIfInBounds_toArray, List.set_cons_zero, List.set_cons_succ]
        rfl
      refine pure_ (i := 6) (N := (some 75)) (v := ?_) (a' := ?_) #[true, true, true, true, true, true, true, false, false, false, false, false, false] rfl rfl (by kernel_rfl) (fun _ _ _ h => h) (Or.inl ⟨by rfl, ?_⟩) ?_ ?_
      rotate_left
      · intro w'
        go_simp
        with_reducible rfl
      rotate_left
      · simp only [Act.put, List.setIfInBounds_toArray, List.set_cons_zero, List.set_cons_succ]
        rfl
      refine pure_ (i := 7) (N := (some 76)) (v := ?_) (a' := ?_) #[true, true, true, true, true, true, true, true, false, false, false, false, false] rfl rfl (by kernel_rfl) (fun _ _ _ h => h) (Or.inl ⟨by rfl, ?_⟩) ?_ ?_
      rotate_left
      · intro w'
        go_simp
        with_reducible rfl
      rotate_left
      · simp only [Act.put, List.setIfInBounds_toArray, List.set_cons_zero, List.set_cons_succ]
        rfl
      refine pure_ (i := 8) (N := (some 77)) (v := ?_) (a' := ?_) #[true, true, true, true, true, true, true, true, true, false, false, false, false] rfl rfl (by kernel_rfl) (fun _ _ _ h => h) (Or.inl ⟨by rfl, ?_⟩) ?_ ?_
      rotate_left
      · intro w'
        go_simp
        with_reducible rfl
      rotate_left
      · simp only [Act.put, List.setIfInBounds_toArray, List.set_cons_zero, List.set_cons_succ]
        rfl
      refine pure_ (i := 9) (N := (some 78)) (v := ?_) (a' := ?_) #[true, true, true, true, true, true, true, true, true, true, false, false, false] rfl rfl (by kernel_rfl) (fun _ _ _ h => h) (Or.inl ⟨by rfl, ?_⟩) ?_ ?_
      rotate_left
      · intro w'
        go_simp
        with_reducible rfl
      rotate_left
      · simp only [Act.put, List.setIfInBounds_toArray, List.set_cons_zero, List.set_cons_succ]
        rfl
      refine take_ (i := 10) (N := some 79) (v := ?_) (a' := ?_) #[true, true, true, true, true, true, true, true, true, true, true, false, false] rfl rfl (by kernel_rfl) (fun _ _ _ h => h) (Or.inl ⟨by rfl, ?_⟩) hHeld ?_ ?_
      rotate_left
      · rintro w' ⟨s0, s1⟩
        go_simp
        with_reducible rfl
      rotate_left
      · simp only [Act.put, List.setIfInBounds_toArray, List.set_cons_zero, List.set_cons_succ]
        rfl
      refine pure_ (i := 11) (N := (some 80)) (v := ?_) (a' := ?_) #[true, true, true, true, true, true, true, true, true, true, true, true, false] rfl rfl (by kernel_rfl) (fun _ _ _ h => h) (Or.inl ⟨by rfl, ?_⟩) ?_ ?_
      rotate_left
      · intro w'
        go_simp
        with_reducible rfl
      rotate_left
      · simp only [Act.put, List.setIfInBounds_toArray, List.set_cons_zero, List.set_cons_succ]
        rfl
      refine last_ (i := 12) (N := none) #[true, true, true, true, true, true, true, true, true, true, true, true, true] rfl rfl (by kernel_rfl) (by decide) (fun K hK => ?_)
      refine skip_ (w1 := ?_) (by rfl) rfl ?_ ?_
      rotate_left
      · go_simp
        rfl
      refine hK.out _ _ ?_
      clear hK K
      refine done_ (by kernel_rfl) ?_
      go_wp2_with fail
      go_roundg k1_
      case measure => omega
      case rel => exact ⟨i + 1, x6, put old m a2, by first | rfl | (congr 1; have := HK.out; have := HN.out; unfold wrap64; omega), ⟨by have := HK.out; have := HI1.out; omega⟩, ⟨DskE.J.far HJ7.out (by decide) (by decide) (by decide) HB7.out HGE.out m (.int .u8 a2)⟩, HI6, ⟨blk_put HB7.out m (.int .u8 a2) (cells_put old m HM.out a2)⟩⟩
    · have qi : (i < n1) = False := eq_false hi
      have HX := Aside0.mk (show x.q.length < 1000000 from by have := HI.out.q; have := HK.out.2; have := HN.out; omega)
      have HS := Aside0.mk HI.out.sync
      obtain ⟨c4, hc4⟩ : ∃ c4, c4 = x.cap := ⟨_, rfl⟩
      rw [← hc4] at HS
      clear hi hc4
      go_wp2_with (go_at_call 15; go_must (refine (k_sync HJ.out HX.out (fun r hr => ⟨(HI.out.at_ r hr).1, by rw [HI.out.len]; exact (HI.out.at_ r hr).2⟩) (by rw [HI.out.fuse]; decide) HS.out).mono ?_; rintro e w7 ⟨rfl, hj, hkp⟩; have HJ7 := Aside0.mk hj; have HB7 := Aside0.mk (hkp g _ _ _ (by decide) (by decide) (by decide) HB.out); clear hj hkp))
      clear HJ HB HI HX HS HK
      go_loopg [11] (n2 + 1) (fun gk v11 w' => ∃ (i : Nat), v11 = .int .i64 (i : Int) ∧ Aside0 (gk + i = n2 + 1 ∧ i ≤ n2) ∧ Aside0 (J w D ⟨S4 old, (qs y).take i, c4, -1, false⟩ w') ∧ Aside0 (w'.heap[g]? = some (.cells #[.int .u8 (old 0), .int .u8 (old 1), .int .u8 (old 2), .int .u8 (old 3)] 30 (0, 0))))
      case atStart => exact ⟨0, rfl, ⟨rfl, Nat.zero_le _⟩, by rw [List.take_zero]; exact HJ7, HB7⟩
      case round =>
        clear HJ7 HB7
        obtain ⟨i, rfl, HK, HJ, HB⟩ := hrel
        by_cases hi : i < n2
        · have qi : (i < n2) = True := eq_true hi
          cases gk with
          | zero => exact absurd HK.out (by omega)
          | succ k2_ =>
          obtain ⟨b, o, rfl, hb, hcc⟩ := HC2.out (by omega)
          obtain ⟨⟨a1, a2⟩, hp⟩ : ∃ p, y[i]? = some p := ⟨_, List.getElem?_eq_getElem (by rw [HY.out]; exact hi)⟩
          have r := HR2.out _ (List.mem_of_getElem? hp)
          obtain ⟨e1, e2⟩ := hcc i _ hp
          have E1 := Aside0.mk e1
          have E2 := Aside0.mk e2
          have HBB := Aside0.mk hb
          have HP := Aside0.mk hp
          have HRr := Aside0.mk r
          obtain ⟨m, hm, hm8, hm4, hme⟩ := rem4 a1 ⟨r.1, r.2.1⟩
          have hmw : (IntKind.i64.wrap a1).tmod 4 = (m : Int) := by rw [i64_same a1 ⟨r.1, r.2.1⟩]; exact hm8
          have qm : ((m : Int) < 4) = True := eq_true (by omega)
          have HM := Aside0.mk hm4
          have HME := Aside0.mk hme
          have HI1 := Aside0.mk hi
          have d1 := (HJ.out.2.cell (p := ⟨b, o + i * 2, none⟩) hb).trans e1
          have d2 := (HJ.out.2.cell (p := ⟨b, o + i * 2 + 1, none⟩) hb).trans e2
          simp only at d1 d2
          have HW := Aside0.mk (wr_next old y c4 i a1 a2 hp m hme hm4)
          have HX := Aside0.mk (show ((qs y).take i).length < 1000000 from by have := HN.out; rw [List.length_take]; omega)
          clear hi e1 e2 hcc hb hp r hm4 hme
          go_wp2_with fail
          refine start_ (n := 16) (S := (fun w' => w'.cell? ⟨b, o + i * 2, none⟩ = some (.int .u8 a1) ∧ w'.cell? ⟨b, o + i * 2 + 1, none⟩ = some (.int .u8 a2))) (ds := []) #[false, false, false, false, false, false, false, false, false, false, false, false, false, false, false, false] (by kernel_rfl) rfl rfl ⟨d1, d2⟩ (fun hHeld => ?_)
          have HJd := Aside0.mk (J.drew HJ.out)
          have HBd : Aside0 (wr.drew.heap[g]? = some (.cells #[.int .u8 (old 0), .int .u8 (old 1), .int .u8 (old 2), .int .u8 (old 3)] 30 (0, 0))) := HB
          refine pure_ (i := 0) (N := (some 90)) (v := ?_) (a' := ?_) #[true, false, false, false, false, false, false, false, false, false, false, false, false, false, false, false] rfl rfl (by kernel_rfl) (fun _ _ _ h => h) (Or.inl ⟨by rfl, ?_⟩) ?_ ?_
          rotate_left
          · intro w'
            go_simp
            with_reducible rfl
          rotate_left
          · simp only [Act.put, List.setIfInBounds_toArray, List.set_cons_zero, List.set_cons_succ]
            rfl
          refine pure_ (i := 1) (N := (some 91)) (v := ?_) (a' := ?_) #[true, true, false, false, false, false, false, false, false, false, false, false, false, false, false, false] rfl rfl (by kernel_rfl) (fun _ _ _ h => h) (Or.inl ⟨by rfl, ?_⟩) ?_ ?_
          rotate_left
          · intro w'
            go_simp
            with_reducible rfl
          rotate_left
          · simp only [Act.put, List.setIfInBounds_toArray, List.set_cons_zero, List.set_cons_succ]
            rfl
          refine pure_ (i := 2) (N := (some 92)) (v := ?_) (a' := ?_) #[true, true, true, false, false, false, false, false, false, false, false, false, false, false, false, false] rfl rfl (by kernel_rfl) (fun _ _ _ h => h) (Or.inl ⟨by rfl, ?_⟩) ?_ ?_
          rotate_left
          · intro w'
            go_simp
            with_reducible rfl
          rotate_left
          · simp only [Act.put, List.setIfInBounds_toArray, List.set_cons_zero, List.set_cons_succ]
            rfl
          refine pure_ (i := 3) (N := (some 93)) (v := ?_) (a' := ?_) #[true, true, true, true, false, false, false, false, false, false, false, false, false, false, false, false] rfl rfl (by kernel_rfl) (fun _ _ _ h => h) (Or.inl ⟨by rfl, ?_⟩) ?_ ?_
          rotate_left
          · intro w'
            go_simp
            with_reducible rfl
          rotate_left
          · simp only [Act.put, List.setIfInBounds_toArray, List.set_cons_zero, List.set_cons_succ]
            rfl
          refine pure_ (i := 4) (N := (some 94)) (v := ?_) (a' := ?_) #[true, true, true, true, true, false, false, false, false, false, false, false, false, false, false, false] rfl rfl (by kernel_rfl) (fun _ _ _ h => h) (Or.inl ⟨by rfl, ?_⟩) ?_ ?_
          rotate_left
          · intro w'
            go_simp
            with_reducible rfl
          rotate_left
          · simp only [Act.put, List.setIfInBounds_toArray, List.set_cons_zero, List.set_cons_succ]
            rfl
          refine take_ (i := 5) (N := some 95) (v := ?_) (a' := ?_) #[true, true, true, true, true, true, false, false, false, false, false, false, false, false, false, false] rfl rfl (by kernel_rfl) (fun _ _ _ h => h) (Or.inl ⟨by rfl, ?_⟩) hHeld ?_ ?_
          rotate_left
          · rintro w' ⟨s0, s1⟩
            go_simp
            with_reducible rfl
          rotate_left
          · simp only [Act.put, List.setIfInBounds_toArray, List.set_cons_zero, List.set_cons_succ]
            rfl
          refine pure_ (i := 6) (N := (some 96)) (v := ?_) (a' := ?_) #[true, true, true, true, true, true, true, false, false, false, false, false, false, false, false, false] rfl rfl (by kernel_rfl) (fun _ _ _ h => h) (Or.inl ⟨by rfl, ?_⟩) ?_ ?_
          rotate_left
          · intro w'
            go_simp
            with_reducible rfl
          rotate_left
          · simp only [Act.put, List.setIfInBounds_toArray, List.set_cons_zero, List.set_cons_succ]
            rfl
          refine pure_ (i := 7) (N := (some 97)) (v := ?_) (a' := ?_) #[true, true, true, true, true, true, true, true, false, false, false, false, false, false, false, false] rfl rfl (by kernel_rfl) (fun _ _ _ h => h) (Or.inl ⟨by rfl, ?_⟩) ?_ ?_
          rotate_left
          · intro w'
            go_simp
            with_reducible rfl
          rotate_left
          · simp only [Act.put, List.setIfInBounds_toArray, List.set_cons_zero, List.set_cons_succ]
            rfl
          refine pure_ (i := 8) (N := (some 98)) (v := ?_) (a' := ?_) #[true, true, true, true, true, true, true, true, true, false, false, false, false, false, false, false] rfl rfl (by kernel_rfl) (fun _ _ _ h => h) (Or.inl ⟨by rfl, ?_⟩) ?_ ?_
          rotate_left
          · intro w'
            go_simp
            with_reducible rfl
          rotate_left
          · simp only [Act.put, List.setIfInBounds_toArray, List.set_cons_zero, List.set_cons_succ]
            rfl
          refine pure_ (i := 9) (N := (some 99)) (v := ?_) (a' := ?_) #[true, true, true, true, true, true, true, true, true, true, false, false, false, false, false, false] rfl rfl (by kernel_rfl) (fun _ _ _ h => h) (Or.inl ⟨by rfl, ?_⟩) ?_ ?_
          rotate_left
          · intro w'
            go_simp
            with_reducible rfl
          rotate_left
          · simp only [Act.put, List.setIfInBounds_toArray, List.set_cons_zero, List.set_cons_succ]
            rfl
          refine pure_ (i := 10) (N := (some 100)) (v := ?_) (a' := ?_) #[true, true, true, true, true, true, true, true, true, true, true, false, false, false, false, false] rfl rfl (by kernel_rfl) (fun _ _ _ h => h) (Or.inl ⟨by rfl, ?_⟩) ?_ ?_
          rotate_left
          · intro w'
            go_simp
            with_reducible rfl
          rotate_left
          · simp only [Act.put, List.setIfInBounds_toArray, List.set_cons_zero, List.set_cons_succ]
            rfl
          refine pure_ (i := 11) (N := (some 101)) (v := ?_) (a' := ?_) #[true, true, true, true, true, true, true, true, true, true, true, true, false, false, false, false] rfl rfl (by kernel_rfl) (fun _ _ _ h => h) (Or.inl ⟨by rfl, ?_⟩) ?_ ?_
          rotate_left
          · intro w'
            go_simp
            with_reducible rfl
          rotate_left
          · simp only [Act.put, List.setIfInBounds_toArray, List.set_cons_zero, List.set_cons_succ]
            rfl
          refine take_ (i := 12) (N := some 102) (v := ?_) (a' := ?_) #[true, true, true, true, true, true, true, true, true, true, true, true, true, false, false, false] rfl rfl (by kernel_rfl) (fun _ _ _ h => h) (Or.inl ⟨by rfl, ?_⟩) hHeld ?_ ?_
          rotate_left
          · rintro w' ⟨s0, s1⟩
            go_simp
            with_reducible rfl
          rotate_left
          · simp only [Act.put, List.setIfInBounds_toArray, List.set_cons_zero, List.set_cons_succ]
            rfl
          refine one_ (i := 13) (N := some 103) #[true, true, true, true, true, true, true, true, true, true, true, true, true, true, false, false] rfl rfl (by kernel_rfl) (by decide) (fun K hK => ?_)
          refine goes_ Try.func14 (by kernel_rfl) rfl #[.int .u8 a2] (by rfl) rfl rfl (by (try simp only [List.map_toArray, List.map_cons, List.map_nil]); first | done | rfl) ?_
          refine (DskP.fill_c a2 _).mono ?_
          rintro e w5 ⟨rfl, hb⟩
          refine ⟨_, rfl, ?_⟩
          have HJ5 := Aside0.mk (HJd.out.below hb)
          have HB5 := Aside0.mk (blk_below HBd.out hb)
          clear hb
          have d1 := (HJ5.out.2.cell (p := ⟨b, o + i * 2, none⟩) HBB.out).trans E1.out
          have d2 := (HJ5.out.2.cell (p := ⟨b, o + i * 2 + 1, none⟩) HBB.out).trans E2.out
          refine hK.out _ _ ⟨d1, d2⟩ (fun hHeld => ?_)
          clear hK K
          refine norm_ (a' := ?_) ?_ ?_
          rotate_left
          · show Act.put _ (some 103) _ = _
            simp only [Act.put, List.setIfInBounds_toArray, List.set_cons_zero, List.set_cons_succ]
            rfl
          refine one_ (i := 14) (N := some 104) #[true, true, true, true, true, true, true, true, true, true, true, true, true, true, true, false] rfl rfl (by kernel_rfl) (by decide) (fun K hK => ?_)
          refine goes_ Try.func13 (by kernel_rfl) rfl #[.pointer (some ⟨D, 0, none⟩), .int .i64 (m : Int), .string (DskP.fillB a2)] (by rfl) rfl rfl (by (try simp only [List.map_toArray, List.map_cons, List.map_nil]); first | done | rfl) ?_
          refine (k_write HJ5.out HX.out (by show (-1 : Int) < _; decide) _ _ HW.out).mono ?_
          rintro e w6 ⟨rfl, hj, hkp⟩
          refine ⟨_, rfl, ?_⟩
          have HJ6 := Aside0.mk hj
          have HB6 := Aside0.mk (hkp g _ _ _ (by decide) (by decide) (by decide) HB5.out)
          clear hj hkp d1 d2 HJd HBd
          have d1 := (HJ6.out.2.cell (p := ⟨b, o + i * 2, none⟩) HBB.out).trans E1.out
          have d2 := (HJ6.out.2.cell (p := ⟨b, o + i * 2 + 1, none⟩) HBB.out).trans E2.out
          refine hK.out _ _ ⟨d1, d2⟩ (fun hHeld => ?_)
          clear hK K
          refine norm_ (a' := ?_) ?_ ?_
          rotate_left
          · show Act.put _ (some 104) _ = _
            simp only [Act.put, List.setIfInBounds_toArray, List.set_cons_zero, List.set_cons_succ]
            rfl
          refine pure_ (i := 15) (N := (some 105)) (v := ?_) (a' := ?_) #[true, true, true, true, true, true, true, true, true, true, true, true, true, true, true, true] rfl rfl (by kernel_rfl) (fun _ _ _ h => h) (Or.inl ⟨by rfl, ?_⟩) ?_ ?_
          rotate_left
          · intro w'
            go_simp
            with_reducible rfl
          rotate_left
          · simp only [Act.put, List.setIfInBounds_toArray, List.set_cons_zero, List.set_cons_succ]
            rfl
          refine done_ (by kernel_rfl) ?_
          go_wp2_with fail
          go_roundg k2_
          case measure => omega
          case rel => exact ⟨i + 1, by first | rfl | (congr 1; have := HK.out; have := HN.out; unfold wrap64; omega), ⟨by have := HK.out; have := HI1.out; omega⟩, HJ6, HB6⟩
        · have qi : (i < n2) = False := eq_false hi
          have hqa : (qs y).take i = qs y := List.take_of_length_le (by unfold qs; rw [List.length_map, HY.out]; omega)
          rw [hqa] at HJ
          have HQL := Aside0.mk (show (qs y).length < 1000000 from by have := HN.out; unfold qs; rw [List.length_map, HY.out]; omega)
          have HQM := Aside0.mk (fun r (hr : r ∈ qs y) => qs_mem (fun p hp => (HR2.out p hp).1) hr)
          obtain ⟨T, hT⟩ : ∃ T, T = DskC.tear (S4 old) (qs y) ch := ⟨_, rfl⟩
          have HTC := Aside0.mk (show DskC.crash ⟨S4 old, qs y, c4, -1, false⟩ ch = ⟨T, [], c4, -1, false⟩ by rw [hT]; rfl)
          have HTL := Aside0.mk (show T.length = 4 by rw [hT]; exact (tear_length _ _ _).trans rfl)
          have HTS := Aside0.mk (show ∀ p ∈ T, p.size = 256 by rw [hT]; exact tear_size _ _ _ (S4_size old) (fun r hr => ⟨(HQM.out r hr).1, (HQM.out r hr).2.1, by simpa [S4] using (HQM.out r hr).2.2⟩))
          have HTK := Aside0.mk (show ∀ p k, p < 4 → k < 4 → sect (T.getD p e0) k = Dsk4P.one (wt old y ch p k (min n2 n3)) from by
              intro p k hp hk
              have hq : (qs y).length = n2 := by unfold qs; rw [List.length_map, HY.out]
              rw [hT, tear_take, hq, ← HN3.out]
              exact sect_tear old y (fun p hp => (HR2.out p hp).1) ch p k hp hk _ (by rw [HY.out]; omega) (by rw [← HN3.out]; omega))
          clear hi hqa hT
          go_wp2_with (go_at_call 16; go_must (rw [HN3.out]; refine (k_crash HJ.out HQL.out (fun r hr => ⟨(HQM.out r hr).2.1, by simpa [S4] using (HQM.out r hr).2.2⟩) (S4_size old) (fun r hr => (HQM.out r hr).1) A3 c3 ch HR3.out (Kd.C_below HK3.out HJ.out.2) HS3.out HTC.out).mono ?_; rintro e w8 ⟨rfl, hj, hkp⟩; have HJ8 := Aside0.mk hj; have HB8 := Aside0.mk (hkp g _ _ _ (by decide) (by decide) (by decide) HB.out); clear hj hkp; rw [← HN3.out]))
          clear HJ HB HK HTC HQL HQM
          go_loopg [12] 5 (fun gk v12 w' => ∃ (p : Nat), v12 = .int .i64 (p : Int) ∧ Aside0 (gk + p = 5 ∧ p ≤ 4) ∧ Aside0 (J w D ⟨T, [], c4, -1, false⟩ w') ∧ Aside0 (w'.heap[g]? = some (.cells #[.int .u8 (old 0), .int .u8 (old 1), .int .u8 (old 2), .int .u8 (old 3)] 30 (0, 0))))
          case atStart => exact ⟨0, rfl, ⟨rfl, by omega⟩, HJ8, HB8⟩
          case round =>
            clear HJ8 HB8
            obtain ⟨p, rfl, HK, HJ, HB⟩ := hrel
            by_cases hp : p < 4
            · have qp : ((p : Int) < 4) = True := eq_true (by omega)
              cases gk with
              | zero => exact absurd HK.out (by omega)
              | succ k3_ =>
              obtain ⟨F, hF⟩ : ∃ F, F = T.getD p e0 := ⟨_, rfl⟩
              have HRd := Aside0.mk (show DskK.rd ⟨T, [], c4, -1, false⟩ (p : Int) = (F, 0) by rw [rd_cur ⟨T, [], c4, -1, false⟩ rfl (fun _ h => (nomatch h)) (p : Int) (by simp) (by show (p : Int) < (T.length : Int); rw [HTL.out]; omega), hF, Int.toNat_natCast]; rfl)
              have hF6 : F.size = 256 := by rw [hF]; exact HTS.out _ (DskC.getD_mem (by rw [HTL.out]; exact hp))
              have HSec := Aside0.mk (fun k (hk : k < 4) => show sect F k = Dsk4P.one (wt old y ch p k (min n2 n3)) by rw [hF]; exact HTK.out p k hp hk)
              have HP := Aside0.mk hp
              clear hp hF
              go_wp2_with (go_at_call 17; go_must (refine (k_read HJ.out (by simp) _ HRd.out).mono ?_; rintro e w9 ⟨rfl, hj, hkp⟩; have HJ9 := Aside0.mk hj; have HB9 := Aside0.mk (hkp g _ _ _ (by decide) (by decide) (by decide) HB.out); clear hj hkp))
              clear HJ HB
              go_loopg [15] 5 (fun gk v15 w' => ∃ (k : Nat), v15 = .int .i64 (k : Int) ∧ Aside0 (gk + k = 5 ∧ k ≤ 4) ∧ Aside0 (J w D ⟨T, [], c4, -1, false⟩ w') ∧ Aside0 (w'.heap[g]? = some (.cells #[.int .u8 (old 0), .int .u8 (old 1), .int .u8 (old 2), .int .u8 (old 3)] 30 (0, 0))))
              case atStart => exact ⟨0, rfl, ⟨rfl, by omega⟩, HJ9, HB9⟩
              case round =>
                clear HJ9 HB9
                obtain ⟨k, rfl, HKk, HJ, HB⟩ := hrel
                by_cases hk : k < 4
                · have qk : ((k : Int) < 4) = True := eq_true (by omega)
                  cases gk with
                  | zero => exact absurd HKk.out (by omega)
                  | succ k4_ =>
                  have HK4 := Aside0.mk hk
                  have cp := cell4 HB.out p HP.out
                  clear hk
                  go_wp2_with fail
                  clear cp
                  go_loopg [16, 17] (n2 + 1) (fun gk v16 v17 w' => ∃ (i : Nat), v16 = .int .u8 (wt old y ch p k i) ∧ v17 = .int .i64 (i : Int) ∧ Aside0 (gk + i = n2 + 1 ∧ i ≤ n2 ∧ i ≤ n3) ∧ Aside0 (J w D ⟨T, [], c4, -1, false⟩ w') ∧ Aside0 (w'.heap[g]? = some (.cells #[.int .u8 (old 0), .int .u8 (old 1), .int .u8 (old 2), .int .u8 (old 3)] 30 (0, 0))))
                  case atStart => exact ⟨0, rfl, rfl, ⟨rfl, by omega⟩, HJ, HB⟩
                  case round =>
                    clear HJ HB
                    obtain ⟨i, rfl, rfl, HKi, HJ, HB⟩ := hrel
                    obtain ⟨v, hv⟩ : ∃ v, v = wt old y ch p k i := ⟨_, rfl⟩
                    rw [← hv]
                    have HV := Aside0.mk hv
                    clear hv
                    by_cases hi : i < n2
                    · have qi : (i < n2) = True := eq_true hi
                      by_cases h3 : i < n3
                      · have q3i : (i < n3) = True := eq_true h3
                        cases gk with
                        | zero => exact absurd HKi.out (by omega)
                        | succ k5_ =>
                        obtain ⟨b, o, rfl, hb, hcc⟩ := HC2.out (by omega)
                        obtain ⟨⟨a1, a2⟩, hp⟩ : ∃ p, y[i]? = some p := ⟨_, List.getElem?_eq_getElem (by rw [HY.out]; exact hi)⟩
                        have r := HR2.out _ (List.mem_of_getElem? hp)
                        obtain ⟨e1, e2⟩ := hcc i _ hp
                        have E1 := Aside0.mk e1
                        have E2 := Aside0.mk e2
                        have HBB := Aside0.mk hb
                        have HP := Aside0.mk hp
                        have HRr := Aside0.mk r
                        obtain ⟨m, hm, hm8, hm4, hme⟩ := rem4 a1 ⟨r.1, r.2.1⟩
                        have hmw : (IntKind.i64.wrap a1).tmod 4 = (m : Int) := by rw [i64_same a1 ⟨r.1, r.2.1⟩]; exact hm8
                        have qm : ((m : Int) < 4) = True := eq_true (by omega)
                        have HM := Aside0.mk hm4
                        have HME := Aside0.mk hme
                        have HI1 := Aside0.mk hi
                        have d1 := (HJ.out.2.cell (p := ⟨b, o + i * 2, none⟩) hb).trans e1
                        have d2 := (HJ.out.2.cell (p := ⟨b, o + i * 2 + 1, none⟩) hb).trans e2
                        simp only at d1 d2
                        obtain ⟨b3, o3, hA3, hb3, hc3⟩ := HC3.out (by rw [← HN3.out]; omega)
                        obtain ⟨cc, hcc3⟩ : ∃ c, ch[i]? = some c := ⟨_, List.getElem?_eq_getElem (by rw [← HN3.out]; exact h3)⟩
                        have d3 := (HJ.out.2.cell (p := ⟨b3, o3 + i, none⟩) hb3).trans (hc3 i cc hcc3)
                        have rc := HR3.out cc (List.mem_of_getElem? hcc3)
                        have hyd : y.getD i (0, 0) = (a1, a2) := by rw [List.getD_eq_getElem?_getD, hp]; rfl
                        have hcd : ch.getD i 0 = cc := by rw [List.getD_eq_getElem?_getD, hcc3]; rfl
                        have hstep := Aside0.mk (show wt old y ch p k (i + 1) = if a1 % 4 = (p : Int) ∧ cc.toNat / 2 ^ k % 2 = 1 then a2 else wt old y ch p k i by rw [wt, hyd, hcd])
                        have hb8 := bit8 cc rc k HK4.out
                        have H3i := Aside0.mk h3
                        by_cases hmp : m = p
                        · by_cases hbit : cc.toNat / 2 ^ k % 2 = 1
                          · have hw := Aside0.mk (show wt old y ch p k (i + 1) = a2 by rw [hstep.out, if_pos ⟨by omega, hbit⟩])
                            rw [eq_true hbit] at hb8
                            have hb9 := beq_iff_eq.2 (of_eq_true hb8)
                            clear hi h3 e1 e2 hcc hb hp r hm4 hme hb3 hc3 hcc3 rc hyd hcd hbit
                            subst hmp
                            subst hA3
                            go_wp2_with fail
                            go_roundg k5_
                            case measure => omega
                            case rel => exact ⟨i + 1, by rw [hw.out], by first | rfl | (congr 1; have := HI1.out; have := HN.out; unfold wrap64; omega), ⟨by have := HKi.out; have := HI1.out; have := H3i.out; omega⟩, HJ, HB⟩
                          · have hw := Aside0.mk (show wt old y ch p k (i + 1) = v by rw [hstep.out, if_neg (fun h => hbit h.2), HV.out])
                            rw [eq_false hbit] at hb8
                            have hb9 := beq_eq_false_iff_ne.2 (of_eq_false hb8)
                            clear hi h3 e1 e2 hcc hb hp r hm4 hme hb3 hc3 hcc3 rc hyd hcd hbit
                            subst hmp
                            subst hA3
                            go_wp2_with fail
                            go_roundg k5_
                            case measure => omega
                            case rel => exact ⟨i + 1, by rw [hw.out], by first | rfl | (congr 1; have := HI1.out; have := HN.out; unfold wrap64; omega), ⟨by have := HKi.out; have := HI1.out; have := H3i.out; omega⟩, HJ, HB⟩
                        · have hw := Aside0.mk (show wt old y ch p k (i + 1) = v by rw [hstep.out, if_neg (fun h => hmp (by have := h.1; omega)), HV.out])
                          have qmp : ((m : Int) = (p : Int)) = False := eq_false (by omega)
                          clear hi h3 e1 e2 hcc hb hp r hm4 hme hb3 hc3 hcc3 rc hyd hcd hb8
                          clear hmp
                          subst hA3
                          go_wp2_with fail
                          go_roundg k5_
                          case measure => omega
                          case rel => exact ⟨i + 1, by rw [hw.out], by first | rfl | (congr 1; have := HI1.out; have := HN.out; unfold wrap64; omega), ⟨by have := HKi.out; have := HI1.out; have := H3i.out; omega⟩, HJ, HB⟩
                      · have q3i : (i < n3) = False := eq_false h3
                        have hmin : i = min n2 n3 := by have := HKi.out; omega
                        obtain ⟨O, hO⟩ : ∃ O, O = Dsk4P.one v := ⟨_, rfl⟩
                        have HS1 := Aside0.mk (show sect F k = O by rw [HSec.out k HK4.out, hO, HV.out, hmin])
                        obtain ⟨G, hG⟩ : ∃ G, G = DskP.fillB v := ⟨_, rfl⟩
                        have hG6 : G.size = 256 := by rw [hG]; exact DskP.fill_size v
                        have hG0 : G.extract 0 64 = O := by rw [hG, hO]; exact fill_front v
                        have CG := Aside0.mk (show ∀ w, Calls Try.prog 14 #[.int .u8 v] w fun e w' => e = .returned (.string G) ∧ Below w.heap.size w w' from fun w => by rw [hG]; exact DskP.fill_c v w)
                        clear hmin hO hG hi h3
                        obtain rfl | rfl | rfl | rfl : k = 0 ∨ k = 1 ∨ k = 2 ∨ k = 3 := by have := HK4.out; omega
                        · have hsx : F.extract 0 64 = O := HS1.out
                          have ww0 : IntKind.i64.wrap 0 = 0 := by decide
                          have ww1 : IntKind.i64.wrap 64 = 64 := by decide
                          have ww2 : IntKind.i64.wrap 128 = 128 := by decide
                          have ww3 : IntKind.i64.wrap 192 = 192 := by decide
                          have ww4 : IntKind.i64.wrap 256 = 256 := by decide
                          go_wp2_with fail
                          refine Cm.wp_region_calm_lit wr (by kernel_rfl) (by kernel_rfl) (Cm.Calm.refl _) ?_
                          try simp only [List.append_eq, List.cons_append, List.nil_append]
                          repeat (first | go_big_quiet_step (fail) | (refine wpQuiet_step (fun K hK => ?_); go_simp; first | (refine hK _ ?_; clear hK K) | (refine ⟨_, fun _ _ => rfl, hK _ ?_⟩; clear hK K) | (apply Exists.intro; refine ⟨fun _ hc_ => ?_, hK _ ?_⟩; (with_reducible exact Cm.Calm.call hc_ (CG.out _)); clear hK K)))
                          refine wpQuiet_nil ?_
                          intro w' hC
                          go_wp2_with fail
                          go_roundg k4_
                          case measure => omega
                          case rel => exact ⟨1, by first | rfl | (congr 1; unfold wrap64; omega), ⟨by have := HKk.out; omega⟩, ⟨HJ.out.below hC.below⟩, ⟨blk_below HB.out hC.below⟩⟩
                        · have hsx : F.extract 64 128 = O := HS1.out
                          have ww0 : IntKind.i64.wrap 0 = 0 := by decide
                          have ww1 : IntKind.i64.wrap 64 = 64 := by decide
                          have ww2 : IntKind.i64.wrap 128 = 128 := by decide
                          have ww3 : IntKind.i64.wrap 192 = 192 := by decide
                          have ww4 : IntKind.i64.wrap 256 = 256 := by decide
                          go_wp2_with fail
                          refine Cm.wp_region_calm_lit wr (by kernel_rfl) (by kernel_rfl) (Cm.Calm.refl _) ?_
                          try simp only [List.append_eq, List.cons_append, List.nil_append]
                          repeat (first | go_big_quiet_step (fail) | (refine wpQuiet_step (fun K hK => ?_); go_simp; first | (refine hK _ ?_; clear hK K) | (refine ⟨_, fun _ _ => rfl, hK _ ?_⟩; clear hK K) | (apply Exists.intro; refine ⟨fun _ hc_ => ?_, hK _ ?_⟩; (with_reducible exact Cm.Calm.call hc_ (CG.out _)); clear hK K)))
                          refine wpQuiet_nil ?_
                          intro w' hC
                          go_wp2_with fail
                          go_roundg k4_
                          case measure => omega
                          case rel => exact ⟨2, by first | rfl | (congr 1; unfold wrap64; omega), ⟨by have := HKk.out; omega⟩, ⟨HJ.out.below hC.below⟩, ⟨blk_below HB.out hC.below⟩⟩
                        · have hsx : F.extract 128 192 = O := HS1.out
                          have ww0 : IntKind.i64.wrap 0 = 0 := by decide
                          have ww1 : IntKind.i64.wrap 64 = 64 := by decide
                          have ww2 : IntKind.i64.wrap 128 = 128 := by decide
                          have ww3 : IntKind.i64.wrap 192 = 192 := by decide
                          have ww4 : IntKind.i64.wrap 256 = 256 := by decide
                          go_wp2_with fail
                          refine Cm.wp_region_calm_lit wr (by kernel_rfl) (by kernel_rfl) (Cm.Calm.refl _) ?_
                          try simp only [List.append_eq, List.cons_append, List.nil_append]
                          repeat (first | go_big_quiet_step (fail) | (refine wpQuiet_step (fun K hK => ?_); go_simp; first | (refine hK _ ?_; clear hK K) | (refine ⟨_, fun _ _ => rfl, hK _ ?_⟩; clear hK K) | (apply Exists.intro; refine ⟨fun _ hc_ => ?_, hK _ ?_⟩; (with_reducible exact Cm.Calm.call hc_ (CG.out _)); clear hK K)))
                          refine wpQuiet_nil ?_
                          intro w' hC
                          go_wp2_with fail
                          go_roundg k4_
                          case measure => omega
                          case rel => exact ⟨3, by first | rfl | (congr 1; unfold wrap64; omega), ⟨by have := HKk.out; omega⟩, ⟨HJ.out.below hC.below⟩, ⟨blk_below HB.out hC.below⟩⟩
                        · have hsx : F.extract 192 256 = O := HS1.out
                          have ww0 : IntKind.i64.wrap 0 = 0 := by decide
                          have ww1 : IntKind.i64.wrap 64 = 64 := by decide
                          have ww2 : IntKind.i64.wrap 128 = 128 := by decide
                          have ww3 : IntKind.i64.wrap 192 = 192 := by decide
                          have ww4 : IntKind.i64.wrap 256 = 256 := by decide
                          go_wp2_with fail
                          refine Cm.wp_region_calm_lit wr (by kernel_rfl) (by kernel_rfl) (Cm.Calm.refl _) ?_
                          try simp only [List.append_eq, List.cons_append, List.nil_append]
                          repeat (first | go_big_quiet_step (fail) | (refine wpQuiet_step (fun K hK => ?_); go_simp; first | (refine hK _ ?_; clear hK K) | (refine ⟨_, fun _ _ => rfl, hK _ ?_⟩; clear hK K) | (apply Exists.intro; refine ⟨fun _ hc_ => ?_, hK _ ?_⟩; (with_reducible exact Cm.Calm.call hc_ (CG.out _)); clear hK K)))
                          refine wpQuiet_nil ?_
                          intro w' hC
                          go_wp2_with fail
                          go_roundg k4_
                          case measure => omega
                          case rel => exact ⟨4, by first | rfl | (congr 1; unfold wrap64; omega), ⟨by have := HKk.out; omega⟩, ⟨HJ.out.below hC.below⟩, ⟨blk_below HB.out hC.below⟩⟩
                    · have qi : (i < n2) = False := eq_false hi
                      have hmin : i = min n2 n3 := by have := HKi.out; omega
                      obtain ⟨O, hO⟩ : ∃ O, O = Dsk4P.one v := ⟨_, rfl⟩
                      have HS1 := Aside0.mk (show sect F k = O by rw [HSec.out k HK4.out, hO, HV.out, hmin])
                      obtain ⟨G, hG⟩ : ∃ G, G = DskP.fillB v := ⟨_, rfl⟩
                      have hG6 : G.size = 256 := by rw [hG]; exact DskP.fill_size v
                      have hG0 : G.extract 0 64 = O := by rw [hG, hO]; exact fill_front v
                      have CG := Aside0.mk (show ∀ w, Calls Try.prog 14 #[.int .u8 v] w fun e w' => e = .returned (.string G) ∧ Below w.heap.size w w' from fun w => by rw [hG]; exact DskP.fill_c v w)
                      clear hmin hO hG hi
                      obtain rfl | rfl | rfl | rfl : k = 0 ∨ k = 1 ∨ k = 2 ∨ k = 3 := by have := HK4.out; omega
                      · have hsx : F.extract 0 64 = O := HS1.out
                        have ww0 : IntKind.i64.wrap 0 = 0 := by decide
                        have ww1 : IntKind.i64.wrap 64 = 64 := by decide
                        have ww2 : IntKind.i64.wrap 128 = 128 := by decide
                        have ww3 : IntKind.i64.wrap 192 = 192 := by decide
                        have ww4 : IntKind.i64.wrap 256 = 256 := by decide
                        go_wp2_with fail
                        refine Cm.wp_region_calm_lit wr (by kernel_rfl) (by kernel_rfl) (Cm.Calm.refl _) ?_
                        try simp only [List.append_eq, List.cons_append, List.nil_append]
                        repeat (first | go_big_quiet_step (fail) | (refine wpQuiet_step (fun K hK => ?_); go_simp; first | (refine hK _ ?_; clear hK K) | (refine ⟨_, fun _ _ => rfl, hK _ ?_⟩; clear hK K) | (apply Exists.intro; refine ⟨fun _ hc_ => ?_, hK _ ?_⟩; (with_reducible exact Cm.Calm.call hc_ (CG.out _)); clear hK K)))
                        refine wpQuiet_nil ?_
                        intro w' hC
                        go_wp2_with fail
                        go_roundg k4_
                        case measure => omega
                        case rel => exact ⟨1, by first | rfl | (congr 1; unfold wrap64; omega), ⟨by have := HKk.out; omega⟩, ⟨HJ.out.below hC.below⟩, ⟨blk_below HB.out hC.below⟩⟩
                      · have hsx : F.extract 64 128 = O := HS1.out
                        have ww0 : IntKind.i64.wrap 0 = 0 := by decide
                        have ww1 : IntKind.i64.wrap 64 = 64 := by decide
                        have ww2 : IntKind.i64.wrap 128 = 128 := by decide
                        have ww3 : IntKind.i64.wrap 192 = 192 := by decide
                        have ww4 : IntKind.i64.wrap 256 = 256 := by decide
                        go_wp2_with fail
                        refine Cm.wp_region_calm_lit wr (by kernel_rfl) (by kernel_rfl) (Cm.Calm.refl _) ?_
                        try simp only [List.append_eq, List.cons_append, List.nil_append]
                        repeat (first | go_big_quiet_step (fail) | (refine wpQuiet_step (fun K hK => ?_); go_simp; first | (refine hK _ ?_; clear hK K) | (refine ⟨_, fun _ _ => rfl, hK _ ?_⟩; clear hK K) | (apply Exists.intro; refine ⟨fun _ hc_ => ?_, hK _ ?_⟩; (with_reducible exact Cm.Calm.call hc_ (CG.out _)); clear hK K)))
                        refine wpQuiet_nil ?_
                        intro w' hC
                        go_wp2_with fail
                        go_roundg k4_
                        case measure => omega
                        case rel => exact ⟨2, by first | rfl | (congr 1; unfold wrap64; omega), ⟨by have := HKk.out; omega⟩, ⟨HJ.out.below hC.below⟩, ⟨blk_below HB.out hC.below⟩⟩
                      · have hsx : F.extract 128 192 = O := HS1.out
                        have ww0 : IntKind.i64.wrap 0 = 0 := by decide
                        have ww1 : IntKind.i64.wrap 64 = 64 := by decide
                        have ww2 : IntKind.i64.wrap 128 = 128 := by decide
                        have ww3 : IntKind.i64.wrap 192 = 192 := by decide
                        have ww4 : IntKind.i64.wrap 256 = 256 := by decide
                        go_wp2_with fail
                        refine Cm.wp_region_calm_lit wr (by kernel_rfl) (by kernel_rfl) (Cm.Calm.refl _) ?_
                        try simp only [List.append_eq, List.cons_append, List.nil_append]
                        repeat (first | go_big_quiet_step (fail) | (refine wpQuiet_step (fun K hK => ?_); go_simp; first | (refine hK _ ?_; clear hK K) | (refine ⟨_, fun _ _ => rfl, hK _ ?_⟩; clear hK K) | (apply Exists.intro; refine ⟨fun _ hc_ => ?_, hK _ ?_⟩; (with_reducible exact Cm.Calm.call hc_ (CG.out _)); clear hK K)))
                        refine wpQuiet_nil ?_
                        intro w' hC
                        go_wp2_with fail
                        go_roundg k4_
                        case measure => omega
                        case rel => exact ⟨3, by first | rfl | (congr 1; unfold wrap64; omega), ⟨by have := HKk.out; omega⟩, ⟨HJ.out.below hC.below⟩, ⟨blk_below HB.out hC.below⟩⟩
                      · have hsx : F.extract 192 256 = O := HS1.out
                        have ww0 : IntKind.i64.wrap 0 = 0 := by decide
                        have ww1 : IntKind.i64.wrap 64 = 64 := by decide
                        have ww2 : IntKind.i64.wrap 128 = 128 := by decide
                        have ww3 : IntKind.i64.wrap 192 = 192 := by decide
                        have ww4 : IntKind.i64.wrap 256 = 256 := by decide
                        go_wp2_with fail
                        refine Cm.wp_region_calm_lit wr (by kernel_rfl) (by kernel_rfl) (Cm.Calm.refl _) ?_
                        try simp only [List.append_eq, List.cons_append, List.nil_append]
                        repeat (first | go_big_quiet_step (fail) | (refine wpQuiet_step (fun K hK => ?_); go_simp; first | (refine hK _ ?_; clear hK K) | (refine ⟨_, fun _ _ => rfl, hK _ ?_⟩; clear hK K) | (apply Exists.intro; refine ⟨fun _ hc_ => ?_, hK _ ?_⟩; (with_reducible exact Cm.Calm.call hc_ (CG.out _)); clear hK K)))
                        refine wpQuiet_nil ?_
                        intro w' hC
                        go_wp2_with fail
                        go_roundg k4_
                        case measure => omega
                        case rel => exact ⟨4, by first | rfl | (congr 1; unfold wrap64; omega), ⟨by have := HKk.out; omega⟩, ⟨HJ.out.below hC.below⟩, ⟨blk_below HB.out hC.below⟩⟩
                · have qk : ((k : Int) < 4) = False := eq_false (by omega)
                  clear hk
                  go_wp2_with fail
                  go_roundg k3_
                  case measure => omega
                  case rel => exact ⟨p + 1, by first | rfl | (congr 1; have := HP.out; unfold wrap64; omega), ⟨by have := HK.out; have := HP.out; omega⟩, HJ, HB⟩
            · have qp : ((p : Int) < 4) = False := eq_false (by omega)
              clear hp
              go_wp2_with (go_at_call 10; refine (DskY.wakes_c _).mono ?_; rintro e w10 ⟨rfl, hb⟩; have HE := Aside0.mk (HJ.out.2.trans (hb.mono HJ.out.2.size)); clear hb)
              go_ret
              exact ⟨rfl, HE.out⟩
end Go.Proofs.Ytbmhfmkfkdbmdaa.Dsk4
