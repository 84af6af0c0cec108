/-
  The page's wakes, reckoned.
-/
import Derived.Test.YtiajgmocmnjijaaDoorPPagx5
import Derived.Test.YtiajgmocmnjijaaDoorPagQ
namespace Go.Proofs.YtiajgmocmnjijaaDoor.PagW
open Go.RowKit Go.Proofs.YtiajgmocmnjijaaDoor.PPag Go.Proofs.YtiajgmocmnjijaaDoorW.PrintWords Go.Proofs.YtiajgmocmnjijaaDoorW.PrintLast Go.Proofs.YtiajgmocmnjijaaDoorW.PrintMore Go.Proofs.YtiajgmocmnjijaaDoor.Str Go.Proofs.YtiajgmocmnjijaaDoor.Dig Go.Proofs.YtiajgmocmnjijaaDoor.PagH Go.Proofs.YtiajgmocmnjijaaDoor.PagP Go.Proofs.YtiajgmocmnjijaaDoor.PagQ
set_option linter.unusedVariables false
def force {α : Type} (n : Nat) (f : Nat → α) : α := Nat.rec (f 0) (fun k _ => f (k + 1)) n
theorem force_eq {α : Type} (n : Nat) (f : Nat → α) : force n f = f n := by cases n <;> rfl
def iterF : Nat → Nat → Nat
  | 0, c => c
  | n + 1, c => force (Crc.step c) fun d => iterF n d
theorem iterF_eq : ∀ n c, iterF n c = Crc.iter n c
  | 0, c => rfl
  | n + 1, c => by rw [iterF, force_eq, Crc.iter, iterF_eq]
def runF : Nat → List Nat → Nat
  | c, [] => c
  | c, b :: l => force (c ^^^ b) fun x => force (iterF 8 x) fun y => runF y l
theorem runF_eq : ∀ (l : List UInt8) (c : Nat), runF c (l.map UInt8.toNat) = Crc.run c l
  | [], c => rfl
  | b :: l, c => by rw [List.map_cons, runF, force_eq, force_eq, iterF_eq, runF_eq]; rfl
/-- The sum of a text of numbers. -/
def crcN (l : List Nat) : Nat := (runF 4294967295 l) ^^^ 4294967295
theorem crcI_str (l : List Int) (m : List Nat) (h : ((strOfNums l).data.toList.map UInt8.toNat) = m) : crcI (strOfNums l) = ((crcN m : Nat) : Int) := by
  subst h
  unfold crcI crcN
  rw [runF_eq]; rfl
def abc : ByteArray := ⟨#[97, 98, 99]⟩
def bodyW : List Nat := [2, 1, 2, 0, 0, 0, 5, 0, 3, 97, 98, 99] ++ List.replicate 240 0
theorem crc1 : crcN bodyW = 3322444213 := by decide +kernel
theorem crc2 : crcN (bodyW.drop 1 ++ [198]) = 2620325017 := by decide +kernel
theorem body_eq : bodyL 2 5 258 abc = bodyW.map Int.ofNat := by decide +kernel
theorem crcI1 : crcI (strOfNums (bodyL 2 5 258 abc)) = 3322444213 := by
  rw [crcI_str _ bodyW (by rw [body_eq]; decide +kernel), crc1]; rfl
theorem full_eq : fullL 2 5 258 abc = (bodyW ++ [198, 8, 121, 181]).map Int.ofNat := by
  rw [fullL, crcI1, body_eq]; decide +kernel
/-- The page of wakes. -/
def pw : ByteArray := strOfNums (fullL 2 5 258 abc)
theorem pw_page : isPage pw 258 2 5 abc := ⟨by decide, rfl⟩
theorem pw_head : (pw.extract 0 12).toList = ([2, 1, 2, 0, 0, 0, 5, 0, 3, 97, 98, 99] : List UInt8) := by
  rw [pw, full_eq]; decide +kernel
theorem pw_off : ¬ rightP ((pw.extract 1 pw.size) ++ (⟨#[120]⟩ : ByteArray)) := by
  have hs : pw.size = 256 := page_size pw_page
  have hb : (pw.extract 1 pw.size) ++ (⟨#[120]⟩ : ByteArray) = strOfNums ((bodyW.drop 1 ++ [198, 8, 121, 181, 120]).map Int.ofNat) := by
    rw [hs, pw, full_eq]; decide +kernel
  rw [hb]
  intro h
  have h2 := h.2
  have e1 : (strOfNums ((bodyW.drop 1 ++ [198, 8, 121, 181, 120]).map Int.ofNat)).extract 0 252 = strOfNums (((bodyW.drop 1 ++ [198])).map Int.ofNat) := by decide +kernel
  have e2 : (strOfNums ((bodyW.drop 1 ++ [198, 8, 121, 181, 120]).map Int.ofNat)).extract 252 256 = strOfNums [8, 121, 181, 120] := by decide +kernel
  rw [e1, e2, crcI_str _ (bodyW.drop 1 ++ [198]) (by decide +kernel), crc2] at h2
  revert h2
  decide +kernel
theorem get_other {s : ByteArray} {at' at2 a b : Int} {pl : ByteArray} (h : isPage s at' a b pl) (hn : at2 ≠ at') : getR s at2 = (0, 0, (⟨#[]⟩ : ByteArray), 6) :=
  get_neg (fun a' b' pl' h' => hn (by have e := (page_read h).symm.trans (page_read h'); simp only [Prod.mk.injEq] at e; exact e.2.2.2.symm))
theorem wakes_ev : Ev (fun k => umbellaw07_wakes.f k) true := by
  have hs : pw.size = 256 := page_size pw_page
  unfold umbellaw07_wakes.f
  refine Ev.bind (a := (pw, true)) (by have := put_ev 2 5 258 abc; rw [putR, if_pos pw_page.1] at this; exact this) ?_
  refine Ev.congr (f := fun k => umbellaw07_wakes.j0 k pw false 2 5 abc) (fun k => by rw [if_pos rfl, hs]; rfl) ?_
  refine Ev.step (f := _) (fun k => by rw [umbellaw07_wakes.j0, if_neg (by decide)]) ?_
  refine Ev.bind (a := (2, 5, abc, 0)) (by have := get_ev pw 258; rw [get_pos pw_page] at this; exact this) ?_
  refine Ev.bind (a := (0, 0, (⟨#[]⟩ : ByteArray), 6)) (by have := get_ev pw 3; rw [get_other pw_page (by decide)] at this; exact this) ?_
  refine Ev.bind (a := (0, 0, (⟨#[]⟩ : ByteArray), 6)) (by have := get_ev (⟨#[]⟩ : ByteArray) 3; rw [get_neg (fun a b pl h => absurd (page_size h) (by decide))] at this; exact this) ?_
  refine Ev.bind (a := ((⟨#[]⟩ : ByteArray), false)) (by have := put_ev 0 0 3 (⟨#[]⟩ : ByteArray); rw [putR, if_neg (by decide)] at this; exact this) ?_
  refine Ev.congr (f := _) (fun k => by rw [if_pos rfl, if_pos (by simp), if_pos rfl, if_pos rfl, if_neg (by decide), if_pos (by decide), if_pos (by rw [hs]; decide), if_pos pw_head]) ?_
  refine Ev.bind (a := true) (by have := right_ev pw; rw [decide_eq_true (page_right pw_page)] at this; exact this) ?_
  refine Ev.congr (f := _) (fun k => by rw [if_pos rfl, if_pos (by rw [hs]; decide), if_pos (by rw [ByteArray.size_extract, hs]; decide)]) ?_
  refine Ev.bind (a := false) (by have := right_ev ((pw.extract 1 pw.size) ++ (⟨#[120]⟩ : ByteArray)); rw [decide_eq_false pw_off] at this; exact this) ?_
  exact Ev.now _
end Go.Proofs.YtiajgmocmnjijaaDoor.PagW
