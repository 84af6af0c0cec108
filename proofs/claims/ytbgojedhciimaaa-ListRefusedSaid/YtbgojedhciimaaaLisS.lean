/-
  list.Split by hand: a range over slices.Chunk.
-/
import Derived.Test.YtbgojedhciimaaaLisK
import Derived.Test.YtbgojedhciimaaaLisI
import Derived.Maps.AppendAt
namespace Go.Proofs.Ytbgojedhciimaaa.LisS
open Go.RowKit Go.Proofs.YtbgojedhciimaaaW.PrintWords Go.Proofs.YtbgojedhciimaaaW.PrintMore Go.Proofs.Ytbgojedhciimaaa.Cm Go.Proofs.Ytbgojedhciimaaa.LisH Go.Proofs.Ytbgojedhciimaaa.LisE Go.Proofs.Ytbgojedhciimaaa.LisK Go.Proofs.Ytbgojedhciimaaa.LisI Go.Proofs.Ytbgojedhciimaaa.PLis
attribute [local go_sem] Oper.semAt_some
set_option linter.unusedVariables false
theorem info39 : (Try.prog.info? 39).map (fun i => (i.zero, i.size, i.bytes)) = some (some (.slice none 0 0), 1, 24) := by kernel_rfl
/-- The m-th chunk. -/
def chk (l : List Int) (m : Nat) : List Int := (l.drop (20 * m)).take 20
theorem chk_len (l : List Int) (m : Nat) : (chk l m).length = min 20 (l.length - 20 * m) := by simp [chk]
/-- All chunks. -/
def chunks (l : List Int) : List (List Int) := (List.range ((l.length + 19) / 20)).map (chk l)
/-- A chunk of a row is a row. -/
theorem chk_row {w : World} {ad : Addr} {l : List Int} (h : Kd.C (Kd.int .i64) w (some ad) l.length l) (m : Nat) : Kd.C (Kd.int .i64) w (some (ad.add (20 * m))) (chk l m).length (chk l m) := by
  obtain ⟨h1, h2, h3⟩ := h
  refine ⟨rfl, by rw [chk_len]; omega, fun hp => ⟨_, rfl, fun j p hj => ?_⟩⟩
  have hlt : j < (chk l m).length := by
    rcases Nat.lt_or_ge j (chk l m).length with q | q
    · exact q
    · rw [List.getElem?_eq_none q] at hj; cases hj
  rw [chk_len] at hlt
  obtain ⟨ad', e, hc⟩ := h3 (by omega)
  obtain ⟨c, q1, q2, q3⟩ := hc (20 * m + j) p (by rw [← hj]; simp [chk, List.getElem?_take]; omega)
  injection e with e
  subst e
  refine ⟨c, q1, q2, fun i u hu => ?_⟩
  have := q3 i u hu
  rw [Addr.add_add]
  rw [show 20 * m + (j * (Kd.int IntKind.i64).sz + i) = (20 * m + j) * (Kd.int IntKind.i64).sz + i by rw [show (Kd.int IntKind.i64).sz = 1 from rfl]; omega]
  exact this
/-- What the loop keeps. -/
def Inv (n₀ : Nat) (w : World) (l : List Int) (pre : List (Ch l)) (W : World) : Prop :=
  (∃ v, Boxed W n₀ 49 v ∧ Kd.R (Kd.slice 3 (Kd.int .i64)) 39 W (n₀ + 3) (fun k => True) v (pre.map fun x => chk l x.1)) ∧ Below n₀ w W ∧ n₀ + 3 ≤ W.heap.size
theorem r_turn {α : Type} {d : Kd α} {e n₀ : Nat} {W W' : World} {v : Value} {xs : List α} {row : Option Nat} (h : d.R e W n₀ (fun _ => True) v xs) (hg : W.grownBy W' row) (hr : ∀ r, row = some r → ∃ o : Obj, W.heap[r]? = some o ∧ o.isCells = false) : d.R e W' n₀ (fun _ => True) v xs := by
  refine Kd.R_mono (Kd.R_move (Kd.R_bound h) ?_) (fun _ _ => trivial)
  rintro k ⟨_, hb, hlt, q, hq, cells, hc⟩
  refine hg.block k hlt ?_
  intro e'
  obtain ⟨o, ho, hi⟩ := hr k e'.symm
  rw [hc] at ho
  cases ho
  simp [Obj.isCells] at hi
theorem inv_own (n₀ B : Nat) (w : World) (l : List Int) (hn : n₀ ≤ w.heap.size) (hB : w.heap.size ≤ B) : OwnFrom B (Inv n₀ w l) := by
  intro pre W W' row ⟨⟨v, hb, hR⟩, hw, hs⟩ hg hr
  refine ⟨⟨v, hb.kept hg ?_, r_turn hR hg (fun r e => (hr r e).2)⟩, hw.grown hg (Nat.le_trans hn hw.size) (fun k hk => by have := (hr k hk).1; omega), Nat.le_trans hs hg.size⟩
  intro e
  obtain ⟨_, o, ho, hi⟩ := hr n₀ e.symm
  rw [show W.heap[n₀]? = _ from hb] at ho
  cases ho
  simp [Obj.isCells] at hi
theorem ite_goal {c : Prop} [Decidable c] {A B : Prop} (h : ite c A B) : ite c A B := h
theorem step_append_run {F : Fence} {n : Nat} {P : Program} {ops : Array Oper} {o : Oper} {a : Act} {w : World} {K : Act → World → Prop} {Q : Exit → Act → World → Prop} (hw : Region.wanted o (yielded ops a.tmps) = true) (s x : Operand) (t : TypeId)
    (hop : o.op = Op.call { callee := Callee.builtin Builtin.append, args := #[s, x], argTypes := #[t, t] }) (v1 : Value) (w1 : World) (hrun : (Builtin.append_ #[t, t] o.type #[a.eval s, a.eval x]).run P w = .ok v1 w1) (h : K (a.put o.dst v1) w1) :
    if Region.wanted o (yielded ops a.tmps) = true then Oper.wpIn F n P o a w K Q else (∀ f, o.about P w a.eval = some f → F.fn f) ∧ K (a.put o.dst undef) w := by
  rw [if_pos hw]
  unfold Oper.wpIn
  refine ⟨?_, ?_⟩
  · simp [Oper.about, hop, resolve, Target.leads, Sem.run_pure]
  · rw [Oper.semAt_plain F _ _ (by rw [hop]; intro c hc'; cases hc')]
    simp [execOp, hop, resolve, invoke, builtin, hrun, Result.andThen]
    exact h
theorem clone_in (l' n : Nat) (ad : Addr) (l : List Int) (x : Ch l) (W : World) (hl : l.length ≤ 500) (hr : Kd.C (Kd.int .i64) W (some ad) l.length l) :
    CallsIn (Fence.wide.inRound l') n Try.prog 40 #[chV ad l.length x.1] W fun e w' => ∃ v, e = .returned v ∧ Kd.R (Kd.int .i64) 3 w' W.heap.size (fun _ => True) v (chk l x.1) ∧ Below W.heap.size W w' := by
  have h := clone_c (ad.add (20 * x.1)) (chk l x.1).length (chk l x.1) W (chk_row hr x.1) (Nat.le_refl _) (by rw [chk_len]; omega)
  rw [chk_len] at h
  exact CallsIn.inRound l' (callsIn_wide.2 h)
theorem body_app (n₀ : Nat) (w W w' : World) (l : List Int) (pre : List (Ch l)) (x : Ch l) (v vc : Value) (hb : Boxed W n₀ 49 v) (hR : Kd.R (Kd.slice 3 (Kd.int .i64)) 39 W (n₀ + 3) (fun k => True) v (pre.map fun x => chk l x.1)) (hB : Below n₀ w W) (hs : n₀ + 3 ≤ W.heap.size)
    (hRc : Kd.R (Kd.int .i64) 3 w' W.heap.size (fun _ => True) vc (chk l x.1)) (hBc : Below W.heap.size W w') (hl : pre.length < 500) :
    ∃ g cap w2, (Builtin.append_ #[49, 49] 49 #[v, .slice (some ⟨w'.heap.size, 0, none⟩) 1 1]).run Try.prog (w'.alloc (.cells #[vc] 39)) = .ok (.slice (some ⟨g, 0, none⟩) (pre.length + 1) cap) w2 ∧ w2.cell? ⟨n₀, 0, none⟩ = some v ∧ w2.frozen? ⟨n₀, 0, none⟩ = false ∧
      KeepsOthers W (w2.setCell ⟨n₀, 0, none⟩ (.slice (some ⟨g, 0, none⟩) (pre.length + 1) cap)) ∧ Two (n₀ + 1) (n₀ + 1 + 1) W (w2.setCell ⟨n₀, 0, none⟩ (.slice (some ⟨g, 0, none⟩) (pre.length + 1) cap)) ∧ Inv n₀ w l (pre ++ [x]) (w2.setCell ⟨n₀, 0, none⟩ (.slice (some ⟨g, 0, none⟩) (pre.length + 1) cap)) := by
  obtain ⟨i0, hi, hz0, hz1, hz2⟩ := info_parts info39
  have hb' : Boxed w' n₀ 49 v := (hBc.block n₀ hb.lt).trans hb
  have hR' : Kd.R (Kd.slice 3 (Kd.int .i64)) 39 (w'.alloc (.cells #[vc] 39)) (n₀ + 3) (fun k => True) v (pre.map fun x => chk l x.1) := Kd.R_alloc (Kd.R_below hR hBc) _
  have hRc' : Kd.R (Kd.int .i64) 3 (w'.alloc (.cells #[vc] 39)) (n₀ + 3) (fun k => W.heap.size ≤ k) vc (chk l x.1) := Kd.R_alloc (Kd.R_lower (Kd.R_mono (Kd.R_bound hRc) (fun k hk => hk.2.1)) hs) _
  have hvlt := Kd.R_lt hR
  obtain ⟨h0, inner, hown, hreps⟩ := hR'
  have hsz := hBc.size
  have hlen : (pre.map fun x : Ch l => chk l x.1).length = pre.length := List.length_map _
  rw [hlen] at hown
  obtain ⟨v1, w1, hr, hown1, hg, hnil, hat⟩ := run_append_own_at (P := Try.prog) (w'.alloc (.cells #[vc] 39)) (n₀ + 3) 49 49 39 i0 (.slice none 0 0) 1 24 Try.underlying49 hi hz0 hz1 hz2 rfl (by decide) v pre.length inner hown ⟨w'.heap.size, 0, none⟩ 1 1 [vc] rfl
    (by simpa using World.news_of_block (cs := #[vc]) (t := 39) (fr := (0, 0)) (heap_alloc_new w' (.cells #[vc] 39))) (by obtain ⟨A, c, e⟩ := Kd.R_slice hRc; intro u hu; rw [List.mem_singleton.1 hu, e]; rfl) (by simp only [maxLen]; omega) (by omega) (by simp; omega)
  obtain ⟨g, cap, rfl⟩ := ownsRow_succ hown1
  have hrb : ∀ k, v.ownBlock = some k → n₀ + 3 ≤ k := own_base hown
  have HR2 := Kd.R_appended (d := Kd.slice 3 (Kd.int .i64)) (okp := fun k => W.heap.size ≤ k) (p := chk l x.1) (cs := [vc]) h0 hreps ⟨vc, rfl, hRc'⟩ (fun k hk => ⟨trivial, fun e => by have := hvlt k e.symm; omega⟩) (fun _ _ => trivial) (by rw [hlen]; exact hown1) hg (hat.imp id (fun e => ⟨_, e, Nat.le_refl _⟩))
  have hb1 : Boxed w1 n₀ 49 v := (hb'.alloc _).kept hg ((hb'.alloc _).not_row (by decide) hown)
  have hK : KeepsOthers W w' := ⟨hBc.size, fun k o hk _ => (hBc.block k (Array.getElem?_eq_some_iff.1 hk).1).trans hk⟩
  have hK2 : KeepsOthers (w'.alloc (.cells #[vc] 39)) w1 := KeepsOthers.of_grownBy hg (fun j o hj ho => by
    obtain ⟨cells, hc⟩ := own_typed hown j hj
    rw [hc] at ho
    cases ho
    rfl)
  have ht : ∀ k, k < n₀ + 3 → k ≠ n₀ → (w1.setCell ⟨n₀, 0, none⟩ (.slice (some ⟨g, 0, none⟩) (pre.length + 1) cap)).heap[k]? = W.heap[k]? := fun k hk hne => by
    rw [Below.heap_setCell w1 ⟨n₀, 0, none⟩ _ k hne, hg.block k (by simp; omega) (fun e => by have := hrb k e.symm; omega), Below.heap_alloc w' _ k (by omega), hBc.block k (by omega)]
  refine ⟨g, cap, w1, hr, hb1.cell, hb1.frozen, ((hK.trans (KeepsOthers.alloc _ _)).trans hK2).trans (KeepsOthers.setCell _ _ _), ⟨ht _ (by omega) (by omega), ht _ (by omega) (by omega)⟩, ⟨⟨_, hb1.set _, ?_⟩, ?_, ?_⟩⟩
  · rw [List.map_append]
    exact Kd.R_mono (Kd.R_far (Kd.R_bound HR2) (fun k hk => by have := hk.2.1; show k ≠ n₀; omega) _) (fun _ _ => trivial)
  · exact (((hB.trans (hBc.mono (by omega))).alloc (by omega) _).grown hg (by simp; omega) (fun k hk => by have := hrb k hk; omega)).setCell (p := ⟨n₀, 0, none⟩) (Nat.le_refl _) _
  · have := hg.size; simp at this ⊢; omega
set_option maxRecDepth 100000 in
set_option maxHeartbeats 4000000 in
theorem split_w (A : Option Addr) (ad : Addr) (c : Nat) (l : List Int) (w : World) (hA : l ≠ [] → A = some ad) (hr' : Kd.C (Kd.int .i64) w A l.length l) (hc : l.length ≤ c) (hl : l.length ≤ 500) :
    CallsIn Fence.wide 6 Try.prog 31 #[.slice A l.length c] w fun e w' => ∃ v, e = .returned v ∧ Kd.R (Kd.slice 3 (Kd.int .i64)) 39 w' w.heap.size (fun _ => True) v (chunks l) ∧ Below w.heap.size w w' := by
  have h1 : 1 ≤ 6 := by omega
  have hro : Fence.wide.round = none := rfl
  obtain ⟨i0, hi, hz0, hz1, hz2⟩ := info_parts info39
  refine callsIn_of_wp_marks Try.func31 rfl trivial ?_ rfl
  simp only [Try.ntmps31, List.size_toArray, List.length_cons, List.length_nil, Nat.reduceAdd, Nat.reduceSub, Array.replicate_succ, Array.replicate_zero, List.push_toArray, List.append_toArray, List.nil_append, List.cons_append]
  gi_wp2_with (refine ⟨trivial, ?_⟩; gi_at_call 39; refine (chunk_in Fence.wide (6 - 1) trivial rfl _ _ _ _).mono ?_; rintro e w' ⟨rfl, rfl⟩)
  have bO := Boxed.new w 49 (.slice none 0 0)
  have bS := Boxed.new (w.alloc (.cells #[.slice none 0 0] 49)) 39 (.slice A l.length c)
  have bN := Boxed.new ((w.alloc (.cells #[.slice none 0 0] 49)).alloc (.cells #[.slice A l.length c] 39)) 3 (.int .i64 20)
  simp only [World.size_alloc] at bS bN
  have hB0 : Below w.heap.size w (((w.alloc (.cells #[.slice none 0 0] 49)).alloc (.cells #[.slice A l.length c] 39)).alloc (.cells #[.int .i64 20] 3)) := below_alloc (below_alloc (below_alloc (Below.refl _ w) _) _) _
  have hseq : SeqStopsK Fence.wide (6 - 1) Try.prog 42 #[.pointer (some ⟨w.heap.size + 1, 0, none⟩), .pointer (some ⟨w.heap.size + 1 + 1, 0, none⟩)] (fun x : Ch l => #[chV ad l.length x.1]) (Two (w.heap.size + 1) (w.heap.size + 1 + 1)) (fun ys => ys.map Subtype.val = List.range ((l.length + 19) / 20)) (fun _ => True) ((l.length + 19) / 20) (((w.alloc (.cells #[.slice none 0 0] 49)).alloc (.cells #[.slice A l.length c] 39)).alloc (.cells #[.int .i64 20] 3)) := by
    by_cases h0 : l = []
    · have bS' := (bS.alloc (.cells #[.int .i64 20] 3)).cell
      exact chunk0_stops Fence.wide (6 - 1) trivial rfl (w.heap.size + 1) (w.heap.size + 1 + 1) c A l h0 _ (by simp) (by simp) bS' bN.cell ad
    · have hA' := hA h0
      subst hA'
      have bS' := (bS.alloc (.cells #[.int .i64 20] 3)).cell
      exact chunk_stops Fence.wide (6 - 1) trivial rfl (by omega) (w.heap.size + 1) (w.heap.size + 1 + 1) c ad l hl hc _ (by simp) (by simp) bS' bN.cell
  refine wpIn_rangeFunc_ownG hro h1 (gf := 42) (lb := #[.pointer (some ⟨w.heap.size + 1, 0, none⟩), .pointer (some ⟨w.heap.size + 1 + 1, 0, none⟩)]) rfl trivial (enters_of Try.func42 (by kernel_rfl) rfl)
    hseq (Two.trans) (two_b (by simp) (by simp)) (Below.refl _ _) (fun _ => rfl)
    (Inv w.heap.size w l)
    (fun _ _ _ => False)
    (inv_own _ _ w l (Nat.le_refl _) (by simp; omega))
    (fun _ _ _ _ _ hs _ _ => hs)
    ⟨⟨_, (bO.alloc _).alloc _, Kd.R_nil _ _ _ _ _⟩, hB0, by simp⟩
    (fun x => { tmps := #[.slice A l.length c, undef, .slice none 0 0, .pointer (some ⟨w.heap.size, 0, none⟩), chV ad l.length x.1, .slice A l.length c, .func (.func 42) #[] #[.pointer (some ⟨w.heap.size + 1, 0, none⟩), .pointer (some ⟨w.heap.size + 1 + 1, 0, none⟩)], chV ad l.length x.1, undef, undef, undef, undef, undef, undef], defers := [] }) ?assign ?body ?done ?stop
  case assign =>
    intro l x W K hK
    gi_wp2
    exact hK
  case body =>
    rintro l' pre x W ⟨⟨v, hb, hR⟩, hB, hs⟩ hlt
    have hbc := hb.cell
    have h0 : l ≠ [] := by
      intro e
      have : l.length = 0 := by rw [e]; rfl
      omega
    have hr : Kd.C (Kd.int .i64) w (some ad) l.length l := by rw [← hA h0]; exact hr'
    have hA' := hA h0
    gi_wp2
    have CL := Lib.hid fun (n : Nat) (W : World) (hb : Below w.heap.size w W) => clone_in l' n ad l x W hl (Kd.C_below hr hb)
    have hpl : pre.length < 500 := by omega
    have BA := Lib.hid fun (w' : World) (vc : Value) (h1 : Kd.R (Kd.int .i64) 3 w' W.heap.size (fun _ => True) vc (chk l x.1)) (h2 : Below W.heap.size W w') => body_app w.heap.size w W w' l pre x v vc hb hR hB hs h1 h2 hpl
    have CB := Lib.hid fun (n : Nat) => (CL.out n W.drew hB.drew).mono (R' := fun e w' => ∃ Ac nc cc g cap w2, e = .returned (.slice Ac nc cc) ∧ (Builtin.append_ #[49, 49] 49 #[v, .slice (some ⟨w'.heap.size, 0, none⟩) 1 1]).run Try.prog (w'.alloc (.cells #[.slice Ac nc cc] 39)) = .ok (.slice (some ⟨g, 0, none⟩) (pre.length + 1) cap) w2 ∧ w2.cell? ⟨w.heap.size, 0, none⟩ = some v ∧ w2.frozen? ⟨w.heap.size, 0, none⟩ = false ∧ w'.cell? ⟨w.heap.size, 0, none⟩ = some v ∧ (w'.alloc (.cells #[.slice Ac nc cc] 39)).cell? ⟨w.heap.size, 0, none⟩ = some v ∧
      (KeepsOthers W (w2.setCell ⟨w.heap.size, 0, none⟩ (.slice (some ⟨g, 0, none⟩) (pre.length + 1) cap)) ∧ Two (w.heap.size + 1) (w.heap.size + 1 + 1) W (w2.setCell ⟨w.heap.size, 0, none⟩ (.slice (some ⟨g, 0, none⟩) (pre.length + 1) cap)) ∧ Inv w.heap.size w l (pre ++ [x]) (w2.setCell ⟨w.heap.size, 0, none⟩ (.slice (some ⟨g, 0, none⟩) (pre.length + 1) cap)))) (by
        rintro e w' ⟨vc, rfl, hRc, hBc⟩
        obtain ⟨Ac, cc, rfl⟩ := Kd.R_slice hRc
        obtain ⟨g, cap, w2, hrun, hc2, hf2, hE⟩ := BA.out w' _ hRc ⟨hBc.os, hBc.tape, hBc.output, hBc.size, hBc.block⟩
        have hb2 : Boxed w' w.heap.size 49 v := (hBc.block _ hb.lt).trans hb
        exact ⟨Ac, _, cc, g, cap, w2, rfl, hrun, hc2, hf2, hb2.cell, (hb2.alloc _).cell, hE⟩)
    clear BA CL
    refine wpIn_region_any rfl ?_
    repeat' (first
      | (with_reducible refine hK _ _ ?_; clear hK K)
      | (refine wpAnyIn_ready (rs := [0, 1]) (by decide +kernel) (by simp) (AllReadyIn.cons rfl (fun K hK => ?_) (AllReadyIn.cons rfl (fun K hK => ?_) AllReadyIn.nil)))
      | (refine wpAnyIn_ready (rs := [1]) (by decide +kernel) (by simp) (AllReadyIn.cons rfl (fun K hK => ?_) AllReadyIn.nil))
      | (refine wpAnyIn_ready (rs := [0, 2]) (by decide +kernel) (by simp) (AllReadyIn.cons rfl (fun K hK => ?_) (AllReadyIn.cons rfl (fun K hK => ?_) AllReadyIn.nil)))
      | (refine wpAnyIn_ready (rs := [2]) (by decide +kernel) (by simp) (AllReadyIn.cons rfl (fun K hK => ?_) AllReadyIn.nil))
      | (refine wpAnyIn_ready (rs := [0, 3]) (by decide +kernel) (by simp) (AllReadyIn.cons rfl (fun K hK => ?_) (AllReadyIn.cons rfl (fun K hK => ?_) AllReadyIn.nil)))
      | (refine wpAnyIn_ready (rs := [0]) (by decide +kernel) (by simp) (AllReadyIn.cons rfl (fun K hK => ?_) AllReadyIn.nil))
      | (refine wpAnyIn_ready (rs := [3]) (by decide +kernel) (by simp) (AllReadyIn.cons rfl (fun K hK => ?_) AllReadyIn.nil))
      | (refine wpAnyIn_ready (rs := [4]) (by decide +kernel) (by simp) (AllReadyIn.cons rfl (fun K hK => ?_) AllReadyIn.nil))
      | (refine wpAnyIn_ready (rs := [5]) (by decide +kernel) (by simp) (AllReadyIn.cons rfl (fun K hK => ?_) AllReadyIn.nil))
      | (refine wpAnyIn_done (by decide +kernel) ?_ _; gi_wp2; exact ⟨hE.1.from _, hE.2⟩)
      | (with_reducible refine step_append_run (by kernel_rfl) (.tmp 8) (.tmp 11) 49 (by with_unfolding_all rfl) _ _ (by with_unfolding_all exact hrun) ?_)
      | (refine ⟨trivial, ?_⟩; with_reducible refine (CB.out _).mono ?_; rintro e w' ⟨Ac, nc, cc, g, cap, w2, rfl, hrun, hc2, hf2, hbc', hbc'', hE⟩)
      | (with_reducible refine ite_goal ?_; go_simp))
  case done =>
    rintro D ys W hD hys ⟨⟨v, hb, hR⟩, hB, hs⟩ hK
    have hc := hb.cell
    have hR2 := r_turn hR (grownBy_putObj' W D (.deferred none)) (fun r e => by cases e; exact ⟨_, hK, rfl⟩)
    rw [show (ys.map fun x : Ch l => chk l x.1) = chunks l by rw [chunks, ← hys, List.map_map]; rfl] at hR2
    gi_wp2
    refine ⟨by simp, .inl ⟨_, _, rfl, run_takeDeferred hK, ?_⟩⟩
    exact ⟨_, results_tmp rfl _ _ _, v, rfl, Kd.R_lower hR2 (by omega), hB.trans (belowK_b (w := w) (Nat.le_refl _) W D _ _ (by simp at hD; omega) hK rfl rfl)⟩
  case stop =>
    rintro D c pre W _ _ h _
    exact h.elim
theorem split_c (A : Option Addr) (c : Nat) (l : List Int) (w : World) (hr : Kd.C (Kd.int .i64) w A l.length l) (hc : l.length ≤ c) (hl : l.length ≤ 500) :
    Calls Try.prog 31 #[.slice A l.length c] w fun e w' => ∃ v, e = .returned v ∧ Kd.R (Kd.slice 3 (Kd.int .i64)) 39 w' w.heap.size (fun _ => True) v (chunks l) ∧ Below w.heap.size w w' := by
  refine callsIn_wide.1 (split_w A (A.getD ⟨0, 0, none⟩) c l w (fun h => ?_) hr hc hl)
  obtain ⟨ad, e, _⟩ := hr.2.2 (List.length_pos_iff.2 h)
  rw [e]
  rfl
end Go.Proofs.Ytbgojedhciimaaa.LisS
