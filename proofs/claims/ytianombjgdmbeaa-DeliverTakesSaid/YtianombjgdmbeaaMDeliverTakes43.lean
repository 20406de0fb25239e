/-
  Is all there, and right? (judge)
-/
import Derived.Test.YtianombjgdmbeaaMDeliverTakes42
import Derived.Test.YtianombjgdmbeaaMDeliverTakes36
import Derived.Test.YtianombjgdmbeaaMDeliverTakes40
namespace Go.Proofs.Ytianombjgdmbeaa
set_option linter.unusedSimpArgs false
set_option linter.unusedVariables false
open Go.RowKit

theorem judgeT_1 {x : Tk} (h1 : x.known = true) (h2 : x.ended = true) (h3 : ¬ x.size = x.last) : judgeT x = ({ x with stage := 4 }, [doneN x 9]) := by unfold judgeT; rw [if_pos ⟨h1, h2, h3⟩]
theorem judgeT_2 {x : Tk} (h1 : x.known = true) (h2 : x.ended = true) (h3 : x.size = x.last) (h4 : allR x.have_ x.size = true) (h5 : fileSum (x.file.take x.size.toNat) = x.sum) : judgeT x = ({ x with stage := 3 }, [doneN x 0]) := by
  unfold judgeT; rw [if_neg (fun h => h.2.2 h3), if_pos ⟨h1, h2, h4⟩, if_pos h5]
theorem judgeT_3 {x : Tk} (h1 : x.known = true) (h2 : x.ended = true) (h3 : x.size = x.last) (h4 : allR x.have_ x.size = true) (h5 : ¬ fileSum (x.file.take x.size.toNat) = x.sum) : judgeT x = ({ x with stage := 4 }, [doneN x 9]) := by
  unfold judgeT; rw [if_neg (fun h => h.2.2 h3), if_pos ⟨h1, h2, h4⟩, if_neg h5]
theorem judgeT_4 {x : Tk} (h : x.known = false) : judgeT x = (x, []) := by unfold judgeT; rw [if_neg (fun k => by rw [h] at k; cases k.1), if_neg (fun k => by rw [h] at k; cases k.1)]
theorem judgeT_5 {x : Tk} (h : x.ended = false) : judgeT x = (x, []) := by unfold judgeT; rw [if_neg (fun k => by rw [h] at k; cases k.2.1), if_neg (fun k => by rw [h] at k; cases k.2.1)]
theorem judgeT_6 {x : Tk} (h3 : x.size = x.last) (h4 : allR x.have_ x.size = false) : judgeT x = (x, []) := by unfold judgeT; rw [if_neg (fun k => k.2.2 h3), if_neg (fun k => by rw [h4] at k; cases k.2.2)]
/-- A taker that has been judged. -/
def JudgeT (w w' : World) (base q : Nat) (y : Tk) (ns ms : List Nt) (F : Option Addr) (fn fc : Nat) (A : Option Addr) (an ac : Nat) (e : Ending) : Prop := SayT w w' base q y (ns ++ ms) F fn fc A an ac e ∧ (ms = [] → Below w.heap.size w w')
theorem JudgeT.of {r : Tk × List Nt} {y y' : Tk} {ns ms ms' : List Nt} {w w' : World} {base q : Nat} {F : Option Addr} {fn fc : Nat} {A : Option Addr} {an ac : Nat} {e : Ending} (h : r = (y, ms)) (h' : r = (y', ms')) (g : SayT w w' base q y' (ns ++ ms') F fn fc A an ac e) (k : ms' = [] → Below w.heap.size w w') : JudgeT w w' base q y ns ms F fn fc A an ac e := by
  rw [h] at h'
  injection h' with e1 e2
  rw [e1, e2]
  exact ⟨g, k⟩
theorem SayT.down {w v w' : World} {base q : Nat} {y : Tk} {ns : List Nt} {F : Option Addr} {fn fc : Nat} {A : Option Addr} {an ac : Nat} {e : Ending} (g : SayT v w' base q y ns F fn fc A an ac e) (hB : Below base w v) : SayT w w' base q y ns F fn fc A an ac e := by
  obtain ⟨O, on, oc, l, h1, h2, h3, h4⟩ := g
  exact ⟨O, on, oc, l, h1, h2, h3, hB.trans h4⟩
/-- All bytes up to here are there: then the file is as long. -/
theorem all_long {l : List (Int × Int)} {n : Nat} {k : Int} (hs : Srt (-1) l) (h : allR l k = true) (hk : 0 ≤ k) (hn : (n : Int) = max (endR (-1) l) 0) : k ≤ (n : Int) := by
  unfold allR at h
  rw [Bool.or_eq_true, decide_eq_true_eq] at h
  rcases h with h | h
  · omega
  · cases l with
    | nil => cases h
    | cons g l =>
      dsimp only at h
      rw [decide_eq_true_eq] at h
      have h2 : endR (-1) (g :: l) = endR g.2 l := rfl
      have h3 := hs.2.2.end_
      omega
set_option maxHeartbeats 12800000 in
set_option maxRecDepth 100000 in
theorem judge_at (x y : Tk) (ms : List Nt) (F : Option Addr) (fn fc : Nat) (A : Option Addr) (an ac : Nat) (O : Option Addr) (on oc : Nat) (l : List NtR) (base q : Nat) (ns : List Nt) (w : World) (hr : judgeT x = (y, ms)) (hq : Blk w q 86 (tw x A an ac F fn fc O on oc)) (hM : GvMem w base (pg x) ns F fn fc A an ac O on oc l) (hsz : 0 ≤ x.size ∧ x.size ≤ 65536) (hs : Srt (-1) x.have_) (hlong : (x.file.length : Int) = max (endR (-1) x.have_) 0) (han : an ≤ 100000) (hon : ns.length ≤ 100000) (hbase : base ≤ w.heap.size) (hbq : base ≤ q) :
    Calls Try.prog 106 #[.pointer (some ⟨q, 0, none⟩)] w fun e w' => JudgeT w w' base q y ns ms F fn fc A an ac e := by
  have HR := Lib.hid hr
  have hB : Below base w w := Below.refl _ _
  have hW : Below w.heap.size w w := Below.refl _ _
  have bq := hq
  have HFL := Lib.hid (show x.file.length = fn from hM.fl)
  have HLG := Lib.hid (fun (h : allR x.have_ x.size = true) => all_long (n := x.file.length) hs h hsz.1 hlong)
  clear hr hq hs hlong
  obtain ⟨id, known, name, size, ended, last, sum, have_, file, stage, timer, patience, tries, limit⟩ := x
  unfold tw at bq
  dsimp only at bq hsz HFL HLG
  go_enter Try.func106, Try.ntmps106
  go_upto_region 0 with fail
  cases known
  ·
    have HE := Lib.hid (judgeT_4 (x := (⟨id, false, name, size, ended, last, sum, have_, file, stage, timer, patience, tries, limit⟩ : Tk)) rfl)
    have y1 : w.drew.cell? ⟨q, 1, none⟩ = some (.bool false) := bq.cell' (i := 1) rfl
    have y4 : w.drew.cell? ⟨q, 4, none⟩ = some (.bool ended) := bq.cell' (i := 4) rfl
    have y3 : w.drew.cell? ⟨q, 3, none⟩ = some (.int .i64 size) := bq.cell' (i := 3) rfl
    have y5 : w.drew.cell? ⟨q, 5, none⟩ = some (.int .i64 last) := bq.cell' (i := 5) rfl
    have y7 : w.drew.cell? ⟨q, 7, none⟩ = some (.slice A an ac) := bq.cell' (i := 7) rfl
    refine freeRegion (fun v => v.cell? ⟨q, 1, none⟩ = some (.bool false) ∧ v.cell? ⟨q, 4, none⟩ = some (.bool ended) ∧ v.cell? ⟨q, 3, none⟩ = some (.int .i64 size) ∧ v.cell? ⟨q, 5, none⟩ = some (.int .i64 last) ∧ v.cell? ⟨q, 7, none⟩ = some (.slice A an ac)) (by kernel_rfl) (by kernel_rfl) ⟨y1, y4, y3, y5, y7⟩ (fun hSS => ?_)
    clear hSS
    replace hM := hM.drewQ
    replace hB := hB.drew
    replace hW := hW.drew
    replace bq := bq.drew
    generalize w.drew = V at *
    refine free_take 0 (v := ?va0) rfl (by kernel_rfl) (by kernel_rfl) (fun _ _ _ h => h) (⟨y1, y4, y3, y5, y7⟩) (Or.inl ⟨by rfl, ?ya0⟩) ?ra0
    case ya0 => intro w hSw; obtain ⟨hw1, hw4, hw3, hw5, hw7⟩ := hSw; (try dsimp only at hSw); go_simp; try rfl
    case' ra0 => try simp only [List.getElem_toArray, List.getElem_cons_succ, List.getElem_cons_zero, Act.put, List.setIfInBounds_toArray, List.set_cons_zero, List.set_cons_succ]
    refine free_take 1 (v := ?va1) rfl (by kernel_rfl) (by kernel_rfl) (fun _ _ _ h => h) (⟨y1, y4, y3, y5, y7⟩) (Or.inl ⟨by rfl, ?ya1⟩) ?ra1
    case ya1 => intro w hSw; obtain ⟨hw1, hw4, hw3, hw5, hw7⟩ := hSw; (try dsimp only at hSw); go_simp; try rfl
    case' ra1 => try simp only [List.getElem_toArray, List.getElem_cons_succ, List.getElem_cons_zero, Act.put, List.setIfInBounds_toArray, List.set_cons_zero, List.set_cons_succ]
    refine free_take 2 (v := ?va2) rfl (by kernel_rfl) (by kernel_rfl) (fun _ _ _ h => h) (⟨y1, y4, y3, y5, y7⟩) (Or.inl ⟨by rfl, ?ya2⟩) ?ra2
    case ya2 => intro w hSw; obtain ⟨hw1, hw4, hw3, hw5, hw7⟩ := hSw; (try dsimp only at hSw); go_simp; try rfl
    case' ra2 => try simp only [List.getElem_toArray, List.getElem_cons_succ, List.getElem_cons_zero, Act.put, List.setIfInBounds_toArray, List.set_cons_zero, List.set_cons_succ]
    refine free_take 3 (v := ?va3) rfl (by kernel_rfl) (by kernel_rfl) (fun _ _ _ h => h) (⟨y1, y4, y3, y5, y7⟩) (Or.inl ⟨by rfl, ?ya3⟩) ?ra3
    case ya3 => intro w hSw; obtain ⟨hw1, hw4, hw3, hw5, hw7⟩ := hSw; (try dsimp only at hSw); go_simp; try rfl
    case' ra3 => try simp only [List.getElem_toArray, List.getElem_cons_succ, List.getElem_cons_zero, Act.put, List.setIfInBounds_toArray, List.set_cons_zero, List.set_cons_succ]
    refine free_take 4 (v := ?va4) rfl (by kernel_rfl) (by kernel_rfl) (fun _ _ _ h => h) (⟨y1, y4, y3, y5, y7⟩) (Or.inl ⟨by rfl, ?ya4⟩) ?ra4
    case ya4 => intro w hSw; obtain ⟨hw1, hw4, hw3, hw5, hw7⟩ := hSw; (try dsimp only at hSw); go_simp; try rfl
    case' ra4 => try simp only [List.getElem_toArray, List.getElem_cons_succ, List.getElem_cons_zero, Act.put, List.setIfInBounds_toArray, List.set_cons_zero, List.set_cons_succ]
    refine free_take 5 (v := ?va5) rfl (by kernel_rfl) (by kernel_rfl) (fun _ _ _ h => h) (⟨y1, y4, y3, y5, y7⟩) (Or.inl ⟨by rfl, ?ya5⟩) ?ra5
    case ya5 => intro w hSw; obtain ⟨hw1, hw4, hw3, hw5, hw7⟩ := hSw; (try dsimp only at hSw); go_simp; try rfl
    case' ra5 => try simp only [List.getElem_toArray, List.getElem_cons_succ, List.getElem_cons_zero, Act.put, List.setIfInBounds_toArray, List.set_cons_zero, List.set_cons_succ]
    refine free_take 6 (v := ?va6) rfl (by kernel_rfl) (by kernel_rfl) (fun _ _ _ h => h) (⟨y1, y4, y3, y5, y7⟩) (Or.inl ⟨by rfl, ?ya6⟩) ?ra6
    case ya6 => intro w hSw; obtain ⟨hw1, hw4, hw3, hw5, hw7⟩ := hSw; (try dsimp only at hSw); go_simp; try rfl
    case' ra6 => try simp only [List.getElem_toArray, List.getElem_cons_succ, List.getElem_cons_zero, Act.put, List.setIfInBounds_toArray, List.set_cons_zero, List.set_cons_succ]
    refine free_take 7 (v := undef) rfl (by kernel_rfl) (by kernel_rfl) (fun _ _ _ h => h) (⟨y1, y4, y3, y5, y7⟩) (Or.inr ⟨by rfl, rfl⟩) ?ra7
    case' ra7 => try simp only [List.getElem_toArray, List.getElem_cons_succ, List.getElem_cons_zero, Act.put, List.setIfInBounds_toArray, List.set_cons_zero, List.set_cons_succ]
    refine free_take 8 (v := undef) rfl (by kernel_rfl) (by kernel_rfl) (fun _ _ _ h => h) (⟨y1, y4, y3, y5, y7⟩) (Or.inr ⟨by rfl, rfl⟩) ?ra8
    case' ra8 => try simp only [List.getElem_toArray, List.getElem_cons_succ, List.getElem_cons_zero, Act.put, List.setIfInBounds_toArray, List.set_cons_zero, List.set_cons_succ]
    refine free_take 9 (v := undef) rfl (by kernel_rfl) (by kernel_rfl) (fun _ _ _ h => h) (⟨y1, y4, y3, y5, y7⟩) (Or.inr ⟨by rfl, rfl⟩) ?ra9
    case' ra9 => try simp only [List.getElem_toArray, List.getElem_cons_succ, List.getElem_cons_zero, Act.put, List.setIfInBounds_toArray, List.set_cons_zero, List.set_cons_succ]
    refine free_take 10 (v := undef) rfl (by kernel_rfl) (by kernel_rfl) (fun _ _ _ h => h) (⟨y1, y4, y3, y5, y7⟩) (Or.inr ⟨by rfl, rfl⟩) ?ra10
    case' ra10 => try simp only [List.getElem_toArray, List.getElem_cons_succ, List.getElem_cons_zero, Act.put, List.setIfInBounds_toArray, List.set_cons_zero, List.set_cons_succ]
    refine free_take 11 (v := undef) rfl (by kernel_rfl) (by kernel_rfl) (fun _ _ _ h => h) (⟨y1, y4, y3, y5, y7⟩) (Or.inr ⟨by rfl, rfl⟩) ?ra11
    case' ra11 => try simp only [List.getElem_toArray, List.getElem_cons_succ, List.getElem_cons_zero, Act.put, List.setIfInBounds_toArray, List.set_cons_zero, List.set_cons_succ]
    refine free_take 12 (v := undef) rfl (by kernel_rfl) (by kernel_rfl) (fun _ _ _ h => h) (⟨y1, y4, y3, y5, y7⟩) (Or.inr ⟨by rfl, rfl⟩) ?ra12
    case' ra12 => try simp only [List.getElem_toArray, List.getElem_cons_succ, List.getElem_cons_zero, Act.put, List.setIfInBounds_toArray, List.set_cons_zero, List.set_cons_succ]
    refine free_take 13 (v := ?va13) rfl (by kernel_rfl) (by kernel_rfl) (fun _ _ _ h => h) (⟨y1, y4, y3, y5, y7⟩) (Or.inl ⟨by rfl, ?ya13⟩) ?ra13
    case ya13 => intro w hSw; obtain ⟨hw1, hw4, hw3, hw5, hw7⟩ := hSw; (try dsimp only at hSw); go_simp; try rfl
    case' ra13 => try simp only [List.getElem_toArray, List.getElem_cons_succ, List.getElem_cons_zero, Act.put, List.setIfInBounds_toArray, List.set_cons_zero, List.set_cons_succ]
    refine free_take 14 (v := ?va14) rfl (by kernel_rfl) (by kernel_rfl) (fun _ _ _ h => h) (⟨y1, y4, y3, y5, y7⟩) (Or.inl ⟨by rfl, ?ya14⟩) ?ra14
    case ya14 => intro w hSw; obtain ⟨hw1, hw4, hw3, hw5, hw7⟩ := hSw; (try dsimp only at hSw); go_simp; try rfl
    case' ra14 => try simp only [List.getElem_toArray, List.getElem_cons_succ, List.getElem_cons_zero, Act.put, List.setIfInBounds_toArray, List.set_cons_zero, List.set_cons_succ]
    refine free_take 15 (v := undef) rfl (by kernel_rfl) (by kernel_rfl) (fun _ _ _ h => h) (⟨y1, y4, y3, y5, y7⟩) (Or.inr ⟨by rfl, rfl⟩) ?ra15
    case' ra15 => try simp only [List.getElem_toArray, List.getElem_cons_succ, List.getElem_cons_zero, Act.put, List.setIfInBounds_toArray, List.set_cons_zero, List.set_cons_succ]
    refine free_take 16 (v := undef) rfl (by kernel_rfl) (by kernel_rfl) (fun _ _ _ h => h) (⟨y1, y4, y3, y5, y7⟩) (Or.inr ⟨by rfl, rfl⟩) ?ra16
    case' ra16 => try simp only [List.getElem_toArray, List.getElem_cons_succ, List.getElem_cons_zero, Act.put, List.setIfInBounds_toArray, List.set_cons_zero, List.set_cons_succ]
    refine free_take 17 (v := undef) rfl (by kernel_rfl) (by kernel_rfl) (fun _ _ _ h => h) (⟨y1, y4, y3, y5, y7⟩) (Or.inr ⟨by rfl, rfl⟩) ?ra17
    case' ra17 => try simp only [List.getElem_toArray, List.getElem_cons_succ, List.getElem_cons_zero, Act.put, List.setIfInBounds_toArray, List.set_cons_zero, List.set_cons_succ]
    refine free_take 18 (v := undef) rfl (by kernel_rfl) (by kernel_rfl) (fun _ _ _ h => h) (⟨y1, y4, y3, y5, y7⟩) (Or.inr ⟨by rfl, rfl⟩) ?ra18
    case' ra18 => try simp only [List.getElem_toArray, List.getElem_cons_succ, List.getElem_cons_zero, Act.put, List.setIfInBounds_toArray, List.set_cons_zero, List.set_cons_succ]
    refine free_take 19 (v := undef) rfl (by kernel_rfl) (by kernel_rfl) (fun _ _ _ h => h) (⟨y1, y4, y3, y5, y7⟩) (Or.inr ⟨by rfl, rfl⟩) ?ra19
    case' ra19 => try simp only [List.getElem_toArray, List.getElem_cons_succ, List.getElem_cons_zero, Act.put, List.setIfInBounds_toArray, List.set_cons_zero, List.set_cons_succ]
    refine free_take 20 (v := undef) rfl (by kernel_rfl) (by kernel_rfl) (fun _ _ _ h => h) (⟨y1, y4, y3, y5, y7⟩) (Or.inr ⟨by rfl, rfl⟩) ?ra20
    case' ra20 => try simp only [List.getElem_toArray, List.getElem_cons_succ, List.getElem_cons_zero, Act.put, List.setIfInBounds_toArray, List.set_cons_zero, List.set_cons_succ]
    refine free_take 21 (v := undef) rfl (by kernel_rfl) (by kernel_rfl) (fun _ _ _ h => h) (⟨y1, y4, y3, y5, y7⟩) (Or.inr ⟨by rfl, rfl⟩) ?ra21
    case' ra21 => try simp only [List.getElem_toArray, List.getElem_cons_succ, List.getElem_cons_zero, Act.put, List.setIfInBounds_toArray, List.set_cons_zero, List.set_cons_succ]
    refine free_take 22 (v := undef) rfl (by kernel_rfl) (by kernel_rfl) (fun _ _ _ h => h) (⟨y1, y4, y3, y5, y7⟩) (Or.inr ⟨by rfl, rfl⟩) ?ra22
    case' ra22 => try simp only [List.getElem_toArray, List.getElem_cons_succ, List.getElem_cons_zero, Act.put, List.setIfInBounds_toArray, List.set_cons_zero, List.set_cons_succ]
    refine free_take 23 (v := undef) rfl (by kernel_rfl) (by kernel_rfl) (fun _ _ _ h => h) (⟨y1, y4, y3, y5, y7⟩) (Or.inr ⟨by rfl, rfl⟩) ?ra23
    case' ra23 => try simp only [List.getElem_toArray, List.getElem_cons_succ, List.getElem_cons_zero, Act.put, List.setIfInBounds_toArray, List.set_cons_zero, List.set_cons_succ]
    refine free_take 24 (v := undef) rfl (by kernel_rfl) (by kernel_rfl) (fun _ _ _ h => h) (⟨y1, y4, y3, y5, y7⟩) (Or.inr ⟨by rfl, rfl⟩) ?ra24
    case' ra24 => try simp only [List.getElem_toArray, List.getElem_cons_succ, List.getElem_cons_zero, Act.put, List.setIfInBounds_toArray, List.set_cons_zero, List.set_cons_succ]
    refine free_take 25 (v := undef) rfl (by kernel_rfl) (by kernel_rfl) (fun _ _ _ h => h) (⟨y1, y4, y3, y5, y7⟩) (Or.inr ⟨by rfl, rfl⟩) ?ra25
    case' ra25 => try simp only [List.getElem_toArray, List.getElem_cons_succ, List.getElem_cons_zero, Act.put, List.setIfInBounds_toArray, List.set_cons_zero, List.set_cons_succ]
    refine free_take 26 (v := undef) rfl (by kernel_rfl) (by kernel_rfl) (fun _ _ _ h => h) (⟨y1, y4, y3, y5, y7⟩) (Or.inr ⟨by rfl, rfl⟩) ?ra26
    case' ra26 => try simp only [List.getElem_toArray, List.getElem_cons_succ, List.getElem_cons_zero, Act.put, List.setIfInBounds_toArray, List.set_cons_zero, List.set_cons_succ]
    refine free_take 27 (v := undef) rfl (by kernel_rfl) (by kernel_rfl) (fun _ _ _ h => h) (⟨y1, y4, y3, y5, y7⟩) (Or.inr ⟨by rfl, rfl⟩) ?ra27
    case' ra27 => try simp only [List.getElem_toArray, List.getElem_cons_succ, List.getElem_cons_zero, Act.put, List.setIfInBounds_toArray, List.set_cons_zero, List.set_cons_succ]
    refine free_take 28 (v := undef) rfl (by kernel_rfl) (by kernel_rfl) (fun _ _ _ h => h) (⟨y1, y4, y3, y5, y7⟩) (Or.inr ⟨by rfl, rfl⟩) ?ra28
    case' ra28 => try simp only [List.getElem_toArray, List.getElem_cons_succ, List.getElem_cons_zero, Act.put, List.setIfInBounds_toArray, List.set_cons_zero, List.set_cons_succ]
    refine free_take 29 (v := undef) rfl (by kernel_rfl) (by kernel_rfl) (fun _ _ _ h => h) (⟨y1, y4, y3, y5, y7⟩) (Or.inr ⟨by rfl, rfl⟩) ?ra29
    case' ra29 => try simp only [List.getElem_toArray, List.getElem_cons_succ, List.getElem_cons_zero, Act.put, List.setIfInBounds_toArray, List.set_cons_zero, List.set_cons_succ]
    refine free_take 30 (v := undef) rfl (by kernel_rfl) (by kernel_rfl) (fun _ _ _ h => h) (⟨y1, y4, y3, y5, y7⟩) (Or.inr ⟨by rfl, rfl⟩) ?ra30
    case' ra30 => try simp only [List.getElem_toArray, List.getElem_cons_succ, List.getElem_cons_zero, Act.put, List.setIfInBounds_toArray, List.set_cons_zero, List.set_cons_succ]
    refine free_take 31 (v := undef) rfl (by kernel_rfl) (by kernel_rfl) (fun _ _ _ h => h) (⟨y1, y4, y3, y5, y7⟩) (Or.inr ⟨by rfl, rfl⟩) ?ra31
    case' ra31 => try simp only [List.getElem_toArray, List.getElem_cons_succ, List.getElem_cons_zero, Act.put, List.setIfInBounds_toArray, List.set_cons_zero, List.set_cons_succ]
    refine free_take 32 (v := undef) rfl (by kernel_rfl) (by kernel_rfl) (fun _ _ _ h => h) (⟨y1, y4, y3, y5, y7⟩) (Or.inr ⟨by rfl, rfl⟩) ?ra32
    case' ra32 => try simp only [List.getElem_toArray, List.getElem_cons_succ, List.getElem_cons_zero, Act.put, List.setIfInBounds_toArray, List.set_cons_zero, List.set_cons_succ]
    refine free_take 33 (v := undef) rfl (by kernel_rfl) (by kernel_rfl) (fun _ _ _ h => h) (⟨y1, y4, y3, y5, y7⟩) (Or.inr ⟨by rfl, rfl⟩) ?ra33
    case' ra33 => try simp only [List.getElem_toArray, List.getElem_cons_succ, List.getElem_cons_zero, Act.put, List.setIfInBounds_toArray, List.set_cons_zero, List.set_cons_succ]
    refine free_take 34 (v := undef) rfl (by kernel_rfl) (by kernel_rfl) (fun _ _ _ h => h) (⟨y1, y4, y3, y5, y7⟩) (Or.inr ⟨by rfl, rfl⟩) ?ra34
    case' ra34 => try simp only [List.getElem_toArray, List.getElem_cons_succ, List.getElem_cons_zero, Act.put, List.setIfInBounds_toArray, List.set_cons_zero, List.set_cons_succ]
    refine free_take 35 (v := undef) rfl (by kernel_rfl) (by kernel_rfl) (fun _ _ _ h => h) (⟨y1, y4, y3, y5, y7⟩) (Or.inr ⟨by rfl, rfl⟩) ?ra35
    case' ra35 => try simp only [List.getElem_toArray, List.getElem_cons_succ, List.getElem_cons_zero, Act.put, List.setIfInBounds_toArray, List.set_cons_zero, List.set_cons_succ]
    refine free_take 36 (v := undef) rfl (by kernel_rfl) (by kernel_rfl) (fun _ _ _ h => h) (⟨y1, y4, y3, y5, y7⟩) (Or.inr ⟨by rfl, rfl⟩) ?ra36
    case' ra36 => try simp only [List.getElem_toArray, List.getElem_cons_succ, List.getElem_cons_zero, Act.put, List.setIfInBounds_toArray, List.set_cons_zero, List.set_cons_succ]
    refine free_take 37 (v := undef) rfl (by kernel_rfl) (by kernel_rfl) (fun _ _ _ h => h) (⟨y1, y4, y3, y5, y7⟩) (Or.inr ⟨by rfl, rfl⟩) ?ra37
    case' ra37 => try simp only [List.getElem_toArray, List.getElem_cons_succ, List.getElem_cons_zero, Act.put, List.setIfInBounds_toArray, List.set_cons_zero, List.set_cons_succ]
    refine free_take 38 (v := undef) rfl (by kernel_rfl) (by kernel_rfl) (fun _ _ _ h => h) (⟨y1, y4, y3, y5, y7⟩) (Or.inr ⟨by rfl, rfl⟩) ?ra38
    case' ra38 => try simp only [List.getElem_toArray, List.getElem_cons_succ, List.getElem_cons_zero, Act.put, List.setIfInBounds_toArray, List.set_cons_zero, List.set_cons_succ]
    refine free_take 39 (v := undef) rfl (by kernel_rfl) (by kernel_rfl) (fun _ _ _ h => h) (⟨y1, y4, y3, y5, y7⟩) (Or.inr ⟨by rfl, rfl⟩) ?ra39
    case' ra39 => try simp only [List.getElem_toArray, List.getElem_cons_succ, List.getElem_cons_zero, Act.put, List.setIfInBounds_toArray, List.set_cons_zero, List.set_cons_succ]
    refine free_take 40 (v := ?va40) rfl (by kernel_rfl) (by kernel_rfl) (fun _ _ _ h => h) (⟨y1, y4, y3, y5, y7⟩) (Or.inl ⟨by rfl, ?ya40⟩) ?ra40
    case ya40 => intro w hSw; obtain ⟨hw1, hw4, hw3, hw5, hw7⟩ := hSw; (try dsimp only at hSw); go_simp; try rfl
    case' ra40 => try simp only [List.getElem_toArray, List.getElem_cons_succ, List.getElem_cons_zero, Act.put, List.setIfInBounds_toArray, List.set_cons_zero, List.set_cons_succ]
    refine free_end (by kernel_rfl) ?_
    clear y1 y4 y3 y5 y7
    go_wp2_with fail
    refine bodyPost_ret (v := .tuple #[]) (by simp [results, Try.results106, go_sem]) rfl ?_
    exact JudgeT.of HR.out HE.out ⟨O, on, oc, l, rfl, bq, (by rw [List.append_nil]; exact hM), hB⟩ (fun _ => hW)
  cases ended
  ·
    have HE := Lib.hid (judgeT_5 (x := (⟨id, true, name, size, false, last, sum, have_, file, stage, timer, patience, tries, limit⟩ : Tk)) rfl)
    have y1 : w.drew.cell? ⟨q, 1, none⟩ = some (.bool true) := bq.cell' (i := 1) rfl
    have y4 : w.drew.cell? ⟨q, 4, none⟩ = some (.bool false) := bq.cell' (i := 4) rfl
    have y3 : w.drew.cell? ⟨q, 3, none⟩ = some (.int .i64 size) := bq.cell' (i := 3) rfl
    have y5 : w.drew.cell? ⟨q, 5, none⟩ = some (.int .i64 last) := bq.cell' (i := 5) rfl
    have y7 : w.drew.cell? ⟨q, 7, none⟩ = some (.slice A an ac) := bq.cell' (i := 7) rfl
    refine freeRegion (fun v => v.cell? ⟨q, 1, none⟩ = some (.bool true) ∧ v.cell? ⟨q, 4, none⟩ = some (.bool false) ∧ v.cell? ⟨q, 3, none⟩ = some (.int .i64 size) ∧ v.cell? ⟨q, 5, none⟩ = some (.int .i64 last) ∧ v.cell? ⟨q, 7, none⟩ = some (.slice A an ac)) (by kernel_rfl) (by kernel_rfl) ⟨y1, y4, y3, y5, y7⟩ (fun hSS => ?_)
    clear hSS
    replace hM := hM.drewQ
    replace hB := hB.drew
    replace hW := hW.drew
    replace bq := bq.drew
    generalize w.drew = V at *
    refine free_take 0 (v := ?vb0) rfl (by kernel_rfl) (by kernel_rfl) (fun _ _ _ h => h) (⟨y1, y4, y3, y5, y7⟩) (Or.inl ⟨by rfl, ?yb0⟩) ?rb0
    case yb0 => intro w hSw; obtain ⟨hw1, hw4, hw3, hw5, hw7⟩ := hSw; (try dsimp only at hSw); go_simp; try rfl
    case' rb0 => try simp only [List.getElem_toArray, List.getElem_cons_succ, List.getElem_cons_zero, Act.put, List.setIfInBounds_toArray, List.set_cons_zero, List.set_cons_succ]
    refine free_take 1 (v := ?vb1) rfl (by kernel_rfl) (by kernel_rfl) (fun _ _ _ h => h) (⟨y1, y4, y3, y5, y7⟩) (Or.inl ⟨by rfl, ?yb1⟩) ?rb1
    case yb1 => intro w hSw; obtain ⟨hw1, hw4, hw3, hw5, hw7⟩ := hSw; (try dsimp only at hSw); go_simp; try rfl
    case' rb1 => try simp only [List.getElem_toArray, List.getElem_cons_succ, List.getElem_cons_zero, Act.put, List.setIfInBounds_toArray, List.set_cons_zero, List.set_cons_succ]
    refine free_take 2 (v := ?vb2) rfl (by kernel_rfl) (by kernel_rfl) (fun _ _ _ h => h) (⟨y1, y4, y3, y5, y7⟩) (Or.inl ⟨by rfl, ?yb2⟩) ?rb2
    case yb2 => intro w hSw; obtain ⟨hw1, hw4, hw3, hw5, hw7⟩ := hSw; (try dsimp only at hSw); go_simp; try rfl
    case' rb2 => try simp only [List.getElem_toArray, List.getElem_cons_succ, List.getElem_cons_zero, Act.put, List.setIfInBounds_toArray, List.set_cons_zero, List.set_cons_succ]
    refine free_take 3 (v := ?vb3) rfl (by kernel_rfl) (by kernel_rfl) (fun _ _ _ h => h) (⟨y1, y4, y3, y5, y7⟩) (Or.inl ⟨by rfl, ?yb3⟩) ?rb3
    case yb3 => intro w hSw; obtain ⟨hw1, hw4, hw3, hw5, hw7⟩ := hSw; (try dsimp only at hSw); go_simp; try rfl
    case' rb3 => try simp only [List.getElem_toArray, List.getElem_cons_succ, List.getElem_cons_zero, Act.put, List.setIfInBounds_toArray, List.set_cons_zero, List.set_cons_succ]
    refine free_take 4 (v := ?vb4) rfl (by kernel_rfl) (by kernel_rfl) (fun _ _ _ h => h) (⟨y1, y4, y3, y5, y7⟩) (Or.inl ⟨by rfl, ?yb4⟩) ?rb4
    case yb4 => intro w hSw; obtain ⟨hw1, hw4, hw3, hw5, hw7⟩ := hSw; (try dsimp only at hSw); go_simp; try rfl
    case' rb4 => try simp only [List.getElem_toArray, List.getElem_cons_succ, List.getElem_cons_zero, Act.put, List.setIfInBounds_toArray, List.set_cons_zero, List.set_cons_succ]
    refine free_take 5 (v := ?vb5) rfl (by kernel_rfl) (by kernel_rfl) (fun _ _ _ h => h) (⟨y1, y4, y3, y5, y7⟩) (Or.inl ⟨by rfl, ?yb5⟩) ?rb5
    case yb5 => intro w hSw; obtain ⟨hw1, hw4, hw3, hw5, hw7⟩ := hSw; (try dsimp only at hSw); go_simp; try rfl
    case' rb5 => try simp only [List.getElem_toArray, List.getElem_cons_succ, List.getElem_cons_zero, Act.put, List.setIfInBounds_toArray, List.set_cons_zero, List.set_cons_succ]
    refine free_take 6 (v := ?vb6) rfl (by kernel_rfl) (by kernel_rfl) (fun _ _ _ h => h) (⟨y1, y4, y3, y5, y7⟩) (Or.inl ⟨by rfl, ?yb6⟩) ?rb6
    case yb6 => intro w hSw; obtain ⟨hw1, hw4, hw3, hw5, hw7⟩ := hSw; (try dsimp only at hSw); go_simp; try rfl
    case' rb6 => try simp only [List.getElem_toArray, List.getElem_cons_succ, List.getElem_cons_zero, Act.put, List.setIfInBounds_toArray, List.set_cons_zero, List.set_cons_succ]
    refine free_take 7 (v := ?vb7) rfl (by kernel_rfl) (by kernel_rfl) (fun _ _ _ h => h) (⟨y1, y4, y3, y5, y7⟩) (Or.inl ⟨by rfl, ?yb7⟩) ?rb7
    case yb7 => intro w hSw; obtain ⟨hw1, hw4, hw3, hw5, hw7⟩ := hSw; (try dsimp only at hSw); go_simp; try rfl
    case' rb7 => try simp only [List.getElem_toArray, List.getElem_cons_succ, List.getElem_cons_zero, Act.put, List.setIfInBounds_toArray, List.set_cons_zero, List.set_cons_succ]
    refine free_take 8 (v := ?vb8) rfl (by kernel_rfl) (by kernel_rfl) (fun _ _ _ h => h) (⟨y1, y4, y3, y5, y7⟩) (Or.inl ⟨by rfl, ?yb8⟩) ?rb8
    case yb8 => intro w hSw; obtain ⟨hw1, hw4, hw3, hw5, hw7⟩ := hSw; (try dsimp only at hSw); go_simp; try rfl
    case' rb8 => try simp only [List.getElem_toArray, List.getElem_cons_succ, List.getElem_cons_zero, Act.put, List.setIfInBounds_toArray, List.set_cons_zero, List.set_cons_succ]
    refine free_take 9 (v := ?vb9) rfl (by kernel_rfl) (by kernel_rfl) (fun _ _ _ h => h) (⟨y1, y4, y3, y5, y7⟩) (Or.inl ⟨by rfl, ?yb9⟩) ?rb9
    case yb9 => intro w hSw; obtain ⟨hw1, hw4, hw3, hw5, hw7⟩ := hSw; (try dsimp only at hSw); go_simp; try rfl
    case' rb9 => try simp only [List.getElem_toArray, List.getElem_cons_succ, List.getElem_cons_zero, Act.put, List.setIfInBounds_toArray, List.set_cons_zero, List.set_cons_succ]
    refine free_take 10 (v := ?vb10) rfl (by kernel_rfl) (by kernel_rfl) (fun _ _ _ h => h) (⟨y1, y4, y3, y5, y7⟩) (Or.inl ⟨by rfl, ?yb10⟩) ?rb10
    case yb10 => intro w hSw; obtain ⟨hw1, hw4, hw3, hw5, hw7⟩ := hSw; (try dsimp only at hSw); go_simp; try rfl
    case' rb10 => try simp only [List.getElem_toArray, List.getElem_cons_succ, List.getElem_cons_zero, Act.put, List.setIfInBounds_toArray, List.set_cons_zero, List.set_cons_succ]
    refine free_take 11 (v := ?vb11) rfl (by kernel_rfl) (by kernel_rfl) (fun _ _ _ h => h) (⟨y1, y4, y3, y5, y7⟩) (Or.inl ⟨by rfl, ?yb11⟩) ?rb11
    case yb11 => intro w hSw; obtain ⟨hw1, hw4, hw3, hw5, hw7⟩ := hSw; (try dsimp only at hSw); go_simp; try rfl
    case' rb11 => try simp only [List.getElem_toArray, List.getElem_cons_succ, List.getElem_cons_zero, Act.put, List.setIfInBounds_toArray, List.set_cons_zero, List.set_cons_succ]
    refine free_take 12 (v := ?vb12) rfl (by kernel_rfl) (by kernel_rfl) (fun _ _ _ h => h) (⟨y1, y4, y3, y5, y7⟩) (Or.inl ⟨by rfl, ?yb12⟩) ?rb12
    case yb12 => intro w hSw; obtain ⟨hw1, hw4, hw3, hw5, hw7⟩ := hSw; (try dsimp only at hSw); go_simp; try rfl
    case' rb12 => try simp only [List.getElem_toArray, List.getElem_cons_succ, List.getElem_cons_zero, Act.put, List.setIfInBounds_toArray, List.set_cons_zero, List.set_cons_succ]
    refine free_take 13 (v := ?vb13) rfl (by kernel_rfl) (by kernel_rfl) (fun _ _ _ h => h) (⟨y1, y4, y3, y5, y7⟩) (Or.inl ⟨by rfl, ?yb13⟩) ?rb13
    case yb13 => intro w hSw; obtain ⟨hw1, hw4, hw3, hw5, hw7⟩ := hSw; (try dsimp only at hSw); go_simp; try rfl
    case' rb13 => try simp only [List.getElem_toArray, List.getElem_cons_succ, List.getElem_cons_zero, Act.put, List.setIfInBounds_toArray, List.set_cons_zero, List.set_cons_succ]
    refine free_take 14 (v := ?vb14) rfl (by kernel_rfl) (by kernel_rfl) (fun _ _ _ h => h) (⟨y1, y4, y3, y5, y7⟩) (Or.inl ⟨by rfl, ?yb14⟩) ?rb14
    case yb14 => intro w hSw; obtain ⟨hw1, hw4, hw3, hw5, hw7⟩ := hSw; (try dsimp only at hSw); go_simp; try rfl
    case' rb14 => try simp only [List.getElem_toArray, List.getElem_cons_succ, List.getElem_cons_zero, Act.put, List.setIfInBounds_toArray, List.set_cons_zero, List.set_cons_succ]
    refine free_take 15 (v := undef) rfl (by kernel_rfl) (by kernel_rfl) (fun _ _ _ h => h) (⟨y1, y4, y3, y5, y7⟩) (Or.inr ⟨by rfl, rfl⟩) ?rb15
    case' rb15 => try simp only [List.getElem_toArray, List.getElem_cons_succ, List.getElem_cons_zero, Act.put, List.setIfInBounds_toArray, List.set_cons_zero, List.set_cons_succ]
    refine free_take 16 (v := undef) rfl (by kernel_rfl) (by kernel_rfl) (fun _ _ _ h => h) (⟨y1, y4, y3, y5, y7⟩) (Or.inr ⟨by rfl, rfl⟩) ?rb16
    case' rb16 => try simp only [List.getElem_toArray, List.getElem_cons_succ, List.getElem_cons_zero, Act.put, List.setIfInBounds_toArray, List.set_cons_zero, List.set_cons_succ]
    refine free_take 17 (v := undef) rfl (by kernel_rfl) (by kernel_rfl) (fun _ _ _ h => h) (⟨y1, y4, y3, y5, y7⟩) (Or.inr ⟨by rfl, rfl⟩) ?rb17
    case' rb17 => try simp only [List.getElem_toArray, List.getElem_cons_succ, List.getElem_cons_zero, Act.put, List.setIfInBounds_toArray, List.set_cons_zero, List.set_cons_succ]
    refine free_take 18 (v := undef) rfl (by kernel_rfl) (by kernel_rfl) (fun _ _ _ h => h) (⟨y1, y4, y3, y5, y7⟩) (Or.inr ⟨by rfl, rfl⟩) ?rb18
    case' rb18 => try simp only [List.getElem_toArray, List.getElem_cons_succ, List.getElem_cons_zero, Act.put, List.setIfInBounds_toArray, List.set_cons_zero, List.set_cons_succ]
    refine free_take 19 (v := undef) rfl (by kernel_rfl) (by kernel_rfl) (fun _ _ _ h => h) (⟨y1, y4, y3, y5, y7⟩) (Or.inr ⟨by rfl, rfl⟩) ?rb19
    case' rb19 => try simp only [List.getElem_toArray, List.getElem_cons_succ, List.getElem_cons_zero, Act.put, List.setIfInBounds_toArray, List.set_cons_zero, List.set_cons_succ]
    refine free_take 20 (v := undef) rfl (by kernel_rfl) (by kernel_rfl) (fun _ _ _ h => h) (⟨y1, y4, y3, y5, y7⟩) (Or.inr ⟨by rfl, rfl⟩) ?rb20
    case' rb20 => try simp only [List.getElem_toArray, List.getElem_cons_succ, List.getElem_cons_zero, Act.put, List.setIfInBounds_toArray, List.set_cons_zero, List.set_cons_succ]
    refine free_take 21 (v := undef) rfl (by kernel_rfl) (by kernel_rfl) (fun _ _ _ h => h) (⟨y1, y4, y3, y5, y7⟩) (Or.inr ⟨by rfl, rfl⟩) ?rb21
    case' rb21 => try simp only [List.getElem_toArray, List.getElem_cons_succ, List.getElem_cons_zero, Act.put, List.setIfInBounds_toArray, List.set_cons_zero, List.set_cons_succ]
    refine free_take 22 (v := undef) rfl (by kernel_rfl) (by kernel_rfl) (fun _ _ _ h => h) (⟨y1, y4, y3, y5, y7⟩) (Or.inr ⟨by rfl, rfl⟩) ?rb22
    case' rb22 => try simp only [List.getElem_toArray, List.getElem_cons_succ, List.getElem_cons_zero, Act.put, List.setIfInBounds_toArray, List.set_cons_zero, List.set_cons_succ]
    refine free_take 23 (v := undef) rfl (by kernel_rfl) (by kernel_rfl) (fun _ _ _ h => h) (⟨y1, y4, y3, y5, y7⟩) (Or.inr ⟨by rfl, rfl⟩) ?rb23
    case' rb23 => try simp only [List.getElem_toArray, List.getElem_cons_succ, List.getElem_cons_zero, Act.put, List.setIfInBounds_toArray, List.set_cons_zero, List.set_cons_succ]
    refine free_take 24 (v := undef) rfl (by kernel_rfl) (by kernel_rfl) (fun _ _ _ h => h) (⟨y1, y4, y3, y5, y7⟩) (Or.inr ⟨by rfl, rfl⟩) ?rb24
    case' rb24 => try simp only [List.getElem_toArray, List.getElem_cons_succ, List.getElem_cons_zero, Act.put, List.setIfInBounds_toArray, List.set_cons_zero, List.set_cons_succ]
    refine free_take 25 (v := undef) rfl (by kernel_rfl) (by kernel_rfl) (fun _ _ _ h => h) (⟨y1, y4, y3, y5, y7⟩) (Or.inr ⟨by rfl, rfl⟩) ?rb25
    case' rb25 => try simp only [List.getElem_toArray, List.getElem_cons_succ, List.getElem_cons_zero, Act.put, List.setIfInBounds_toArray, List.set_cons_zero, List.set_cons_succ]
    refine free_take 26 (v := undef) rfl (by kernel_rfl) (by kernel_rfl) (fun _ _ _ h => h) (⟨y1, y4, y3, y5, y7⟩) (Or.inr ⟨by rfl, rfl⟩) ?rb26
    case' rb26 => try simp only [List.getElem_toArray, List.getElem_cons_succ, List.getElem_cons_zero, Act.put, List.setIfInBounds_toArray, List.set_cons_zero, List.set_cons_succ]
    refine free_take 27 (v := undef) rfl (by kernel_rfl) (by kernel_rfl) (fun _ _ _ h => h) (⟨y1, y4, y3, y5, y7⟩) (Or.inr ⟨by rfl, rfl⟩) ?rb27
    case' rb27 => try simp only [List.getElem_toArray, List.getElem_cons_succ, List.getElem_cons_zero, Act.put, List.setIfInBounds_toArray, List.set_cons_zero, List.set_cons_succ]
    refine free_take 28 (v := undef) rfl (by kernel_rfl) (by kernel_rfl) (fun _ _ _ h => h) (⟨y1, y4, y3, y5, y7⟩) (Or.inr ⟨by rfl, rfl⟩) ?rb28
    case' rb28 => try simp only [List.getElem_toArray, List.getElem_cons_succ, List.getElem_cons_zero, Act.put, List.setIfInBounds_toArray, List.set_cons_zero, List.set_cons_succ]
    refine free_take 29 (v := undef) rfl (by kernel_rfl) (by kernel_rfl) (fun _ _ _ h => h) (⟨y1, y4, y3, y5, y7⟩) (Or.inr ⟨by rfl, rfl⟩) ?rb29
    case' rb29 => try simp only [List.getElem_toArray, List.getElem_cons_succ, List.getElem_cons_zero, Act.put, List.setIfInBounds_toArray, List.set_cons_zero, List.set_cons_succ]
    refine free_take 30 (v := undef) rfl (by kernel_rfl) (by kernel_rfl) (fun _ _ _ h => h) (⟨y1, y4, y3, y5, y7⟩) (Or.inr ⟨by rfl, rfl⟩) ?rb30
    case' rb30 => try simp only [List.getElem_toArray, List.getElem_cons_succ, List.getElem_cons_zero, Act.put, List.setIfInBounds_toArray, List.set_cons_zero, List.set_cons_succ]
    refine free_take 31 (v := undef) rfl (by kernel_rfl) (by kernel_rfl) (fun _ _ _ h => h) (⟨y1, y4, y3, y5, y7⟩) (Or.inr ⟨by rfl, rfl⟩) ?rb31
    case' rb31 => try simp only [List.getElem_toArray, List.getElem_cons_succ, List.getElem_cons_zero, Act.put, List.setIfInBounds_toArray, List.set_cons_zero, List.set_cons_succ]
    refine free_take 32 (v := undef) rfl (by kernel_rfl) (by kernel_rfl) (fun _ _ _ h => h) (⟨y1, y4, y3, y5, y7⟩) (Or.inr ⟨by rfl, rfl⟩) ?rb32
    case' rb32 => try simp only [List.getElem_toArray, List.getElem_cons_succ, List.getElem_cons_zero, Act.put, List.setIfInBounds_toArray, List.set_cons_zero, List.set_cons_succ]
    refine free_take 33 (v := undef) rfl (by kernel_rfl) (by kernel_rfl) (fun _ _ _ h => h) (⟨y1, y4, y3, y5, y7⟩) (Or.inr ⟨by rfl, rfl⟩) ?rb33
    case' rb33 => try simp only [List.getElem_toArray, List.getElem_cons_succ, List.getElem_cons_zero, Act.put, List.setIfInBounds_toArray, List.set_cons_zero, List.set_cons_succ]
    refine free_take 34 (v := undef) rfl (by kernel_rfl) (by kernel_rfl) (fun _ _ _ h => h) (⟨y1, y4, y3, y5, y7⟩) (Or.inr ⟨by rfl, rfl⟩) ?rb34
    case' rb34 => try simp only [List.getElem_toArray, List.getElem_cons_succ, List.getElem_cons_zero, Act.put, List.setIfInBounds_toArray, List.set_cons_zero, List.set_cons_succ]
    refine free_take 35 (v := undef) rfl (by kernel_rfl) (by kernel_rfl) (fun _ _ _ h => h) (⟨y1, y4, y3, y5, y7⟩) (Or.inr ⟨by rfl, rfl⟩) ?rb35
    case' rb35 => try simp only [List.getElem_toArray, List.getElem_cons_succ, List.getElem_cons_zero, Act.put, List.setIfInBounds_toArray, List.set_cons_zero, List.set_cons_succ]
    refine free_take 36 (v := undef) rfl (by kernel_rfl) (by kernel_rfl) (fun _ _ _ h => h) (⟨y1, y4, y3, y5, y7⟩) (Or.inr ⟨by rfl, rfl⟩) ?rb36
    case' rb36 => try simp only [List.getElem_toArray, List.getElem_cons_succ, List.getElem_cons_zero, Act.put, List.setIfInBounds_toArray, List.set_cons_zero, List.set_cons_succ]
    refine free_take 37 (v := undef) rfl (by kernel_rfl) (by kernel_rfl) (fun _ _ _ h => h) (⟨y1, y4, y3, y5, y7⟩) (Or.inr ⟨by rfl, rfl⟩) ?rb37
    case' rb37 => try simp only [List.getElem_toArray, List.getElem_cons_succ, List.getElem_cons_zero, Act.put, List.setIfInBounds_toArray, List.set_cons_zero, List.set_cons_succ]
    refine free_take 38 (v := undef) rfl (by kernel_rfl) (by kernel_rfl) (fun _ _ _ h => h) (⟨y1, y4, y3, y5, y7⟩) (Or.inr ⟨by rfl, rfl⟩) ?rb38
    case' rb38 => try simp only [List.getElem_toArray, List.getElem_cons_succ, List.getElem_cons_zero, Act.put, List.setIfInBounds_toArray, List.set_cons_zero, List.set_cons_succ]
    refine free_take 39 (v := undef) rfl (by kernel_rfl) (by kernel_rfl) (fun _ _ _ h => h) (⟨y1, y4, y3, y5, y7⟩) (Or.inr ⟨by rfl, rfl⟩) ?rb39
    case' rb39 => try simp only [List.getElem_toArray, List.getElem_cons_succ, List.getElem_cons_zero, Act.put, List.setIfInBounds_toArray, List.set_cons_zero, List.set_cons_succ]
    refine free_take 40 (v := ?vb40) rfl (by kernel_rfl) (by kernel_rfl) (fun _ _ _ h => h) (⟨y1, y4, y3, y5, y7⟩) (Or.inl ⟨by rfl, ?yb40⟩) ?rb40
    case yb40 => intro w hSw; obtain ⟨hw1, hw4, hw3, hw5, hw7⟩ := hSw; (try dsimp only at hSw); go_simp; try rfl
    case' rb40 => try simp only [List.getElem_toArray, List.getElem_cons_succ, List.getElem_cons_zero, Act.put, List.setIfInBounds_toArray, List.set_cons_zero, List.set_cons_succ]
    refine free_end (by kernel_rfl) ?_
    clear y1 y4 y3 y5 y7
    go_wp2_with fail
    refine bodyPost_ret (v := .tuple #[]) (by simp [results, Try.results106, go_sem]) rfl ?_
    exact JudgeT.of HR.out HE.out ⟨O, on, oc, l, rfl, bq, (by rw [List.append_nil]; exact hM), hB⟩ (fun _ => hW)
  by_cases hl : size = last
  rotate_left
  ·
    have HE := Lib.hid (judgeT_1 (x := (⟨id, true, name, size, true, last, sum, have_, file, stage, timer, patience, tries, limit⟩ : Tk)) rfl rfl hl)
    have hlb : (size == last) = false := by rw [beq_eq_false_iff_ne]; exact hl
    clear hl HLG
    have y1 : w.drew.cell? ⟨q, 1, none⟩ = some (.bool true) := bq.cell' (i := 1) rfl
    have y4 : w.drew.cell? ⟨q, 4, none⟩ = some (.bool true) := bq.cell' (i := 4) rfl
    have y3 : w.drew.cell? ⟨q, 3, none⟩ = some (.int .i64 size) := bq.cell' (i := 3) rfl
    have y5 : w.drew.cell? ⟨q, 5, none⟩ = some (.int .i64 last) := bq.cell' (i := 5) rfl
    have y7 : w.drew.cell? ⟨q, 7, none⟩ = some (.slice A an ac) := bq.cell' (i := 7) rfl
    refine freeRegion (fun v => v.cell? ⟨q, 1, none⟩ = some (.bool true) ∧ v.cell? ⟨q, 4, none⟩ = some (.bool true) ∧ v.cell? ⟨q, 3, none⟩ = some (.int .i64 size) ∧ v.cell? ⟨q, 5, none⟩ = some (.int .i64 last) ∧ v.cell? ⟨q, 7, none⟩ = some (.slice A an ac)) (by kernel_rfl) (by kernel_rfl) ⟨y1, y4, y3, y5, y7⟩ (fun hSS => ?_)
    clear hSS
    replace hM := hM.drewQ
    replace hB := hB.drew
    replace hW := hW.drew
    replace bq := bq.drew
    generalize w.drew = V at *
    refine free_take 0 (v := ?vc0) rfl (by kernel_rfl) (by kernel_rfl) (fun _ _ _ h => h) (⟨y1, y4, y3, y5, y7⟩) (Or.inl ⟨by rfl, ?yc0⟩) ?rc0
    case yc0 => intro w hSw; obtain ⟨hw1, hw4, hw3, hw5, hw7⟩ := hSw; (try dsimp only at hSw); go_simp; try rfl
    case' rc0 => try simp only [List.getElem_toArray, List.getElem_cons_succ, List.getElem_cons_zero, Act.put, List.setIfInBounds_toArray, List.set_cons_zero, List.set_cons_succ]
    refine free_take 1 (v := ?vc1) rfl (by kernel_rfl) (by kernel_rfl) (fun _ _ _ h => h) (⟨y1, y4, y3, y5, y7⟩) (Or.inl ⟨by rfl, ?yc1⟩) ?rc1
    case yc1 => intro w hSw; obtain ⟨hw1, hw4, hw3, hw5, hw7⟩ := hSw; (try dsimp only at hSw); go_simp; try rfl
    case' rc1 => try simp only [List.getElem_toArray, List.getElem_cons_succ, List.getElem_cons_zero, Act.put, List.setIfInBounds_toArray, List.set_cons_zero, List.set_cons_succ]
    refine free_take 2 (v := ?vc2) rfl (by kernel_rfl) (by kernel_rfl) (fun _ _ _ h => h) (⟨y1, y4, y3, y5, y7⟩) (Or.inl ⟨by rfl, ?yc2⟩) ?rc2
    case yc2 => intro w hSw; obtain ⟨hw1, hw4, hw3, hw5, hw7⟩ := hSw; (try dsimp only at hSw); go_simp; try rfl
    case' rc2 => try simp only [List.getElem_toArray, List.getElem_cons_succ, List.getElem_cons_zero, Act.put, List.setIfInBounds_toArray, List.set_cons_zero, List.set_cons_succ]
    refine free_take 3 (v := ?vc3) rfl (by kernel_rfl) (by kernel_rfl) (fun _ _ _ h => h) (⟨y1, y4, y3, y5, y7⟩) (Or.inl ⟨by rfl, ?yc3⟩) ?rc3
    case yc3 => intro w hSw; obtain ⟨hw1, hw4, hw3, hw5, hw7⟩ := hSw; (try dsimp only at hSw); go_simp; try rfl
    case' rc3 => try simp only [List.getElem_toArray, List.getElem_cons_succ, List.getElem_cons_zero, Act.put, List.setIfInBounds_toArray, List.set_cons_zero, List.set_cons_succ]
    refine free_take 4 (v := ?vc4) rfl (by kernel_rfl) (by kernel_rfl) (fun _ _ _ h => h) (⟨y1, y4, y3, y5, y7⟩) (Or.inl ⟨by rfl, ?yc4⟩) ?rc4
    case yc4 => intro w hSw; obtain ⟨hw1, hw4, hw3, hw5, hw7⟩ := hSw; (try dsimp only at hSw); go_simp; try rfl
    case' rc4 => try simp only [List.getElem_toArray, List.getElem_cons_succ, List.getElem_cons_zero, Act.put, List.setIfInBounds_toArray, List.set_cons_zero, List.set_cons_succ]
    refine free_take 5 (v := ?vc5) rfl (by kernel_rfl) (by kernel_rfl) (fun _ _ _ h => h) (⟨y1, y4, y3, y5, y7⟩) (Or.inl ⟨by rfl, ?yc5⟩) ?rc5
    case yc5 => intro w hSw; obtain ⟨hw1, hw4, hw3, hw5, hw7⟩ := hSw; (try dsimp only at hSw); go_simp; try rfl
    case' rc5 => try simp only [List.getElem_toArray, List.getElem_cons_succ, List.getElem_cons_zero, Act.put, List.setIfInBounds_toArray, List.set_cons_zero, List.set_cons_succ]
    refine free_take 6 (v := ?vc6) rfl (by kernel_rfl) (by kernel_rfl) (fun _ _ _ h => h) (⟨y1, y4, y3, y5, y7⟩) (Or.inl ⟨by rfl, ?yc6⟩) ?rc6
    case yc6 => intro w hSw; obtain ⟨hw1, hw4, hw3, hw5, hw7⟩ := hSw; (try dsimp only at hSw); go_simp; try rfl
    case' rc6 => try simp only [List.getElem_toArray, List.getElem_cons_succ, List.getElem_cons_zero, Act.put, List.setIfInBounds_toArray, List.set_cons_zero, List.set_cons_succ]
    refine free_take 7 (v := ?vc7) rfl (by kernel_rfl) (by kernel_rfl) (fun _ _ _ h => h) (⟨y1, y4, y3, y5, y7⟩) (Or.inl ⟨by rfl, ?yc7⟩) ?rc7
    case yc7 => intro w hSw; obtain ⟨hw1, hw4, hw3, hw5, hw7⟩ := hSw; (try dsimp only at hSw); go_simp; try rfl
    case' rc7 => try simp only [List.getElem_toArray, List.getElem_cons_succ, List.getElem_cons_zero, Act.put, List.setIfInBounds_toArray, List.set_cons_zero, List.set_cons_succ]
    refine free_take 8 (v := ?vc8) rfl (by kernel_rfl) (by kernel_rfl) (fun _ _ _ h => h) (⟨y1, y4, y3, y5, y7⟩) (Or.inl ⟨by rfl, ?yc8⟩) ?rc8
    case yc8 => intro w hSw; obtain ⟨hw1, hw4, hw3, hw5, hw7⟩ := hSw; (try dsimp only at hSw); go_simp; try rfl
    case' rc8 => try simp only [List.getElem_toArray, List.getElem_cons_succ, List.getElem_cons_zero, Act.put, List.setIfInBounds_toArray, List.set_cons_zero, List.set_cons_succ]
    refine free_take 9 (v := ?vc9) rfl (by kernel_rfl) (by kernel_rfl) (fun _ _ _ h => h) (⟨y1, y4, y3, y5, y7⟩) (Or.inl ⟨by rfl, ?yc9⟩) ?rc9
    case yc9 => intro w hSw; obtain ⟨hw1, hw4, hw3, hw5, hw7⟩ := hSw; (try dsimp only at hSw); go_simp; try rfl
    case' rc9 => try simp only [List.getElem_toArray, List.getElem_cons_succ, List.getElem_cons_zero, Act.put, List.setIfInBounds_toArray, List.set_cons_zero, List.set_cons_succ]
    refine free_take 10 (v := ?vc10) rfl (by kernel_rfl) (by kernel_rfl) (fun _ _ _ h => h) (⟨y1, y4, y3, y5, y7⟩) (Or.inl ⟨by rfl, ?yc10⟩) ?rc10
    case yc10 => intro w hSw; obtain ⟨hw1, hw4, hw3, hw5, hw7⟩ := hSw; (try dsimp only at hSw); go_simp; try rfl
    case' rc10 => try simp only [List.getElem_toArray, List.getElem_cons_succ, List.getElem_cons_zero, Act.put, List.setIfInBounds_toArray, List.set_cons_zero, List.set_cons_succ]
    refine free_take 11 (v := ?vc11) rfl (by kernel_rfl) (by kernel_rfl) (fun _ _ _ h => h) (⟨y1, y4, y3, y5, y7⟩) (Or.inl ⟨by rfl, ?yc11⟩) ?rc11
    case yc11 => intro w hSw; obtain ⟨hw1, hw4, hw3, hw5, hw7⟩ := hSw; (try dsimp only at hSw); go_simp; try rfl
    case' rc11 => try simp only [List.getElem_toArray, List.getElem_cons_succ, List.getElem_cons_zero, Act.put, List.setIfInBounds_toArray, List.set_cons_zero, List.set_cons_succ]
    refine free_take 12 (v := ?vc12) rfl (by kernel_rfl) (by kernel_rfl) (fun _ _ _ h => h) (⟨y1, y4, y3, y5, y7⟩) (Or.inl ⟨by rfl, ?yc12⟩) ?rc12
    case yc12 => intro w hSw; obtain ⟨hw1, hw4, hw3, hw5, hw7⟩ := hSw; (try dsimp only at hSw); go_simp; try rfl
    case' rc12 => try simp only [List.getElem_toArray, List.getElem_cons_succ, List.getElem_cons_zero, Act.put, List.setIfInBounds_toArray, List.set_cons_zero, List.set_cons_succ]
    refine free_take 13 (v := ?vc13) rfl (by kernel_rfl) (by kernel_rfl) (fun _ _ _ h => h) (⟨y1, y4, y3, y5, y7⟩) (Or.inl ⟨by rfl, ?yc13⟩) ?rc13
    case yc13 => intro w hSw; obtain ⟨hw1, hw4, hw3, hw5, hw7⟩ := hSw; (try dsimp only at hSw); go_simp; try rfl
    case' rc13 => try simp only [List.getElem_toArray, List.getElem_cons_succ, List.getElem_cons_zero, Act.put, List.setIfInBounds_toArray, List.set_cons_zero, List.set_cons_succ]
    refine free_take 14 (v := ?vc14) rfl (by kernel_rfl) (by kernel_rfl) (fun _ _ _ h => h) (⟨y1, y4, y3, y5, y7⟩) (Or.inl ⟨by rfl, ?yc14⟩) ?rc14
    case yc14 => intro w hSw; obtain ⟨hw1, hw4, hw3, hw5, hw7⟩ := hSw; (try dsimp only at hSw); go_simp; try rfl
    case' rc14 => try simp only [List.getElem_toArray, List.getElem_cons_succ, List.getElem_cons_zero, Act.put, List.setIfInBounds_toArray, List.set_cons_zero, List.set_cons_succ]
    refine free_take 15 (v := ?vc15) rfl (by kernel_rfl) (by kernel_rfl) (fun _ _ _ h => h) (⟨y1, y4, y3, y5, y7⟩) (Or.inl ⟨by rfl, ?yc15⟩) ?rc15
    case yc15 => intro w hSw; obtain ⟨hw1, hw4, hw3, hw5, hw7⟩ := hSw; (try dsimp only at hSw); go_simp; try rfl
    case' rc15 => try simp only [List.getElem_toArray, List.getElem_cons_succ, List.getElem_cons_zero, Act.put, List.setIfInBounds_toArray, List.set_cons_zero, List.set_cons_succ]
    refine free_take 16 (v := ?vc16) rfl (by kernel_rfl) (by kernel_rfl) (fun _ _ _ h => h) (⟨y1, y4, y3, y5, y7⟩) (Or.inl ⟨by rfl, ?yc16⟩) ?rc16
    case yc16 => intro w hSw; obtain ⟨hw1, hw4, hw3, hw5, hw7⟩ := hSw; (try dsimp only at hSw); go_simp; try rfl
    case' rc16 => try simp only [List.getElem_toArray, List.getElem_cons_succ, List.getElem_cons_zero, Act.put, List.setIfInBounds_toArray, List.set_cons_zero, List.set_cons_succ]
    refine free_take 17 (v := ?vc17) rfl (by kernel_rfl) (by kernel_rfl) (fun _ _ _ h => h) (⟨y1, y4, y3, y5, y7⟩) (Or.inl ⟨by rfl, ?yc17⟩) ?rc17
    case yc17 => intro w hSw; obtain ⟨hw1, hw4, hw3, hw5, hw7⟩ := hSw; (try dsimp only at hSw); go_simp; try rfl
    case' rc17 => try simp only [List.getElem_toArray, List.getElem_cons_succ, List.getElem_cons_zero, Act.put, List.setIfInBounds_toArray, List.set_cons_zero, List.set_cons_succ]
    refine free_take 18 (v := ?vc18) rfl (by kernel_rfl) (by kernel_rfl) (fun _ _ _ h => h) (⟨y1, y4, y3, y5, y7⟩) (Or.inl ⟨by rfl, ?yc18⟩) ?rc18
    case yc18 => intro w hSw; obtain ⟨hw1, hw4, hw3, hw5, hw7⟩ := hSw; (try dsimp only at hSw); go_simp; try rfl
    case' rc18 => try simp only [List.getElem_toArray, List.getElem_cons_succ, List.getElem_cons_zero, Act.put, List.setIfInBounds_toArray, List.set_cons_zero, List.set_cons_succ]
    refine free_take 19 (v := ?vc19) rfl (by kernel_rfl) (by kernel_rfl) (fun _ _ _ h => h) (⟨y1, y4, y3, y5, y7⟩) (Or.inl ⟨by rfl, ?yc19⟩) ?rc19
    case yc19 => intro w hSw; obtain ⟨hw1, hw4, hw3, hw5, hw7⟩ := hSw; (try dsimp only at hSw); go_simp; try rfl
    case' rc19 => try simp only [List.getElem_toArray, List.getElem_cons_succ, List.getElem_cons_zero, Act.put, List.setIfInBounds_toArray, List.set_cons_zero, List.set_cons_succ]
    refine free_take 20 (v := ?vc20) rfl (by kernel_rfl) (by kernel_rfl) (fun _ _ _ h => h) (⟨y1, y4, y3, y5, y7⟩) (Or.inl ⟨by rfl, ?yc20⟩) ?rc20
    case yc20 => intro w hSw; obtain ⟨hw1, hw4, hw3, hw5, hw7⟩ := hSw; (try dsimp only at hSw); go_simp; try rfl
    case' rc20 => try simp only [List.getElem_toArray, List.getElem_cons_succ, List.getElem_cons_zero, Act.put, List.setIfInBounds_toArray, List.set_cons_zero, List.set_cons_succ]
    refine free_take 21 (v := ?vc21) rfl (by kernel_rfl) (by kernel_rfl) (fun _ _ _ h => h) (⟨y1, y4, y3, y5, y7⟩) (Or.inl ⟨by rfl, ?yc21⟩) ?rc21
    case yc21 => intro w hSw; obtain ⟨hw1, hw4, hw3, hw5, hw7⟩ := hSw; (try dsimp only at hSw); go_simp; try rfl
    case' rc21 => try simp only [List.getElem_toArray, List.getElem_cons_succ, List.getElem_cons_zero, Act.put, List.setIfInBounds_toArray, List.set_cons_zero, List.set_cons_succ]
    refine free_take 22 (v := ?vc22) rfl (by kernel_rfl) (by kernel_rfl) (fun _ _ _ h => h) (⟨y1, y4, y3, y5, y7⟩) (Or.inl ⟨by rfl, ?yc22⟩) ?rc22
    case yc22 => intro w hSw; obtain ⟨hw1, hw4, hw3, hw5, hw7⟩ := hSw; (try dsimp only at hSw); go_simp; try rfl
    case' rc22 => try simp only [List.getElem_toArray, List.getElem_cons_succ, List.getElem_cons_zero, Act.put, List.setIfInBounds_toArray, List.set_cons_zero, List.set_cons_succ]
    refine free_take 23 (v := ?vc23) rfl (by kernel_rfl) (by kernel_rfl) (fun _ _ _ h => h) (⟨y1, y4, y3, y5, y7⟩) (Or.inl ⟨by rfl, ?yc23⟩) ?rc23
    case yc23 => intro w hSw; obtain ⟨hw1, hw4, hw3, hw5, hw7⟩ := hSw; (try dsimp only at hSw); go_simp; try rfl
    case' rc23 => try simp only [List.getElem_toArray, List.getElem_cons_succ, List.getElem_cons_zero, Act.put, List.setIfInBounds_toArray, List.set_cons_zero, List.set_cons_succ]
    refine free_take 24 (v := ?vc24) rfl (by kernel_rfl) (by kernel_rfl) (fun _ _ _ h => h) (⟨y1, y4, y3, y5, y7⟩) (Or.inl ⟨by rfl, ?yc24⟩) ?rc24
    case yc24 => intro w hSw; obtain ⟨hw1, hw4, hw3, hw5, hw7⟩ := hSw; (try dsimp only at hSw); go_simp; try rfl
    case' rc24 => try simp only [List.getElem_toArray, List.getElem_cons_succ, List.getElem_cons_zero, Act.put, List.setIfInBounds_toArray, List.set_cons_zero, List.set_cons_succ]
    refine free_take 25 (v := ?vc25) rfl (by kernel_rfl) (by kernel_rfl) (fun _ _ _ h => h) (⟨y1, y4, y3, y5, y7⟩) (Or.inl ⟨by rfl, ?yc25⟩) ?rc25
    case yc25 => intro w hSw; obtain ⟨hw1, hw4, hw3, hw5, hw7⟩ := hSw; (try dsimp only at hSw); go_simp; try rfl
    case' rc25 => try simp only [List.getElem_toArray, List.getElem_cons_succ, List.getElem_cons_zero, Act.put, List.setIfInBounds_toArray, List.set_cons_zero, List.set_cons_succ]
    refine free_take 26 (v := ?vc26) rfl (by kernel_rfl) (by kernel_rfl) (fun _ _ _ h => h) (⟨y1, y4, y3, y5, y7⟩) (Or.inl ⟨by rfl, ?yc26⟩) ?rc26
    case yc26 => intro w hSw; obtain ⟨hw1, hw4, hw3, hw5, hw7⟩ := hSw; (try dsimp only at hSw); go_simp; try rfl
    case' rc26 => try simp only [List.getElem_toArray, List.getElem_cons_succ, List.getElem_cons_zero, Act.put, List.setIfInBounds_toArray, List.set_cons_zero, List.set_cons_succ]
    refine free_take 27 (v := undef) rfl (by kernel_rfl) (by kernel_rfl) (fun _ _ _ h => h) (⟨y1, y4, y3, y5, y7⟩) (Or.inr ⟨by rfl, rfl⟩) ?rc27
    case' rc27 => try simp only [List.getElem_toArray, List.getElem_cons_succ, List.getElem_cons_zero, Act.put, List.setIfInBounds_toArray, List.set_cons_zero, List.set_cons_succ]
    refine free_take 28 (v := undef) rfl (by kernel_rfl) (by kernel_rfl) (fun _ _ _ h => h) (⟨y1, y4, y3, y5, y7⟩) (Or.inr ⟨by rfl, rfl⟩) ?rc28
    case' rc28 => try simp only [List.getElem_toArray, List.getElem_cons_succ, List.getElem_cons_zero, Act.put, List.setIfInBounds_toArray, List.set_cons_zero, List.set_cons_succ]
    refine free_take 29 (v := undef) rfl (by kernel_rfl) (by kernel_rfl) (fun _ _ _ h => h) (⟨y1, y4, y3, y5, y7⟩) (Or.inr ⟨by rfl, rfl⟩) ?rc29
    case' rc29 => try simp only [List.getElem_toArray, List.getElem_cons_succ, List.getElem_cons_zero, Act.put, List.setIfInBounds_toArray, List.set_cons_zero, List.set_cons_succ]
    refine free_take 30 (v := undef) rfl (by kernel_rfl) (by kernel_rfl) (fun _ _ _ h => h) (⟨y1, y4, y3, y5, y7⟩) (Or.inr ⟨by rfl, rfl⟩) ?rc30
    case' rc30 => try simp only [List.getElem_toArray, List.getElem_cons_succ, List.getElem_cons_zero, Act.put, List.setIfInBounds_toArray, List.set_cons_zero, List.set_cons_succ]
    refine free_take 31 (v := undef) rfl (by kernel_rfl) (by kernel_rfl) (fun _ _ _ h => h) (⟨y1, y4, y3, y5, y7⟩) (Or.inr ⟨by rfl, rfl⟩) ?rc31
    case' rc31 => try simp only [List.getElem_toArray, List.getElem_cons_succ, List.getElem_cons_zero, Act.put, List.setIfInBounds_toArray, List.set_cons_zero, List.set_cons_succ]
    refine free_take 32 (v := undef) rfl (by kernel_rfl) (by kernel_rfl) (fun _ _ _ h => h) (⟨y1, y4, y3, y5, y7⟩) (Or.inr ⟨by rfl, rfl⟩) ?rc32
    case' rc32 => try simp only [List.getElem_toArray, List.getElem_cons_succ, List.getElem_cons_zero, Act.put, List.setIfInBounds_toArray, List.set_cons_zero, List.set_cons_succ]
    refine free_take 33 (v := undef) rfl (by kernel_rfl) (by kernel_rfl) (fun _ _ _ h => h) (⟨y1, y4, y3, y5, y7⟩) (Or.inr ⟨by rfl, rfl⟩) ?rc33
    case' rc33 => try simp only [List.getElem_toArray, List.getElem_cons_succ, List.getElem_cons_zero, Act.put, List.setIfInBounds_toArray, List.set_cons_zero, List.set_cons_succ]
    refine free_take 34 (v := undef) rfl (by kernel_rfl) (by kernel_rfl) (fun _ _ _ h => h) (⟨y1, y4, y3, y5, y7⟩) (Or.inr ⟨by rfl, rfl⟩) ?rc34
    case' rc34 => try simp only [List.getElem_toArray, List.getElem_cons_succ, List.getElem_cons_zero, Act.put, List.setIfInBounds_toArray, List.set_cons_zero, List.set_cons_succ]
    refine free_take 35 (v := undef) rfl (by kernel_rfl) (by kernel_rfl) (fun _ _ _ h => h) (⟨y1, y4, y3, y5, y7⟩) (Or.inr ⟨by rfl, rfl⟩) ?rc35
    case' rc35 => try simp only [List.getElem_toArray, List.getElem_cons_succ, List.getElem_cons_zero, Act.put, List.setIfInBounds_toArray, List.set_cons_zero, List.set_cons_succ]
    refine free_take 36 (v := undef) rfl (by kernel_rfl) (by kernel_rfl) (fun _ _ _ h => h) (⟨y1, y4, y3, y5, y7⟩) (Or.inr ⟨by rfl, rfl⟩) ?rc36
    case' rc36 => try simp only [List.getElem_toArray, List.getElem_cons_succ, List.getElem_cons_zero, Act.put, List.setIfInBounds_toArray, List.set_cons_zero, List.set_cons_succ]
    refine free_take 37 (v := undef) rfl (by kernel_rfl) (by kernel_rfl) (fun _ _ _ h => h) (⟨y1, y4, y3, y5, y7⟩) (Or.inr ⟨by rfl, rfl⟩) ?rc37
    case' rc37 => try simp only [List.getElem_toArray, List.getElem_cons_succ, List.getElem_cons_zero, Act.put, List.setIfInBounds_toArray, List.set_cons_zero, List.set_cons_succ]
    refine free_take 38 (v := undef) rfl (by kernel_rfl) (by kernel_rfl) (fun _ _ _ h => h) (⟨y1, y4, y3, y5, y7⟩) (Or.inr ⟨by rfl, rfl⟩) ?rc38
    case' rc38 => try simp only [List.getElem_toArray, List.getElem_cons_succ, List.getElem_cons_zero, Act.put, List.setIfInBounds_toArray, List.set_cons_zero, List.set_cons_succ]
    refine free_take 39 (v := ?vc39) rfl (by kernel_rfl) (by kernel_rfl) (fun _ _ _ h => h) (⟨y1, y4, y3, y5, y7⟩) (Or.inl ⟨by rfl, ?yc39⟩) ?rc39
    case yc39 => intro w hSw; obtain ⟨hw1, hw4, hw3, hw5, hw7⟩ := hSw; (try dsimp only at hSw); go_simp; try rfl
    case' rc39 => try simp only [List.getElem_toArray, List.getElem_cons_succ, List.getElem_cons_zero, Act.put, List.setIfInBounds_toArray, List.set_cons_zero, List.set_cons_succ]
    refine free_take 40 (v := ?vc40) rfl (by kernel_rfl) (by kernel_rfl) (fun _ _ _ h => h) (⟨y1, y4, y3, y5, y7⟩) (Or.inl ⟨by rfl, ?yc40⟩) ?rc40
    case yc40 => intro w hSw; obtain ⟨hw1, hw4, hw3, hw5, hw7⟩ := hSw; (try dsimp only at hSw); go_simp; try rfl
    case' rc40 => try simp only [List.getElem_toArray, List.getElem_cons_succ, List.getElem_cons_zero, Act.put, List.setIfInBounds_toArray, List.set_cons_zero, List.set_cons_succ]
    refine free_end (by kernel_rfl) ?_
    clear y1 y4 y3 y5 y7
    trace "C"
    have kf := bq.frozen
    have y9 := bq.cell' (i := 9) rfl
    go_upto_region 3 with fail
    clear kf y9
    replace hM := hM.turnQ bq (by decide) (by decide) (by decide) ((Turned.refl V (fun i => i = q)).set (p := ⟨q, 9, none⟩) (fun _ => rfl) (.int .i64 4))
    replace bq := bq.set_ 9 (.int .i64 4)
    replace hB := hB.setCell (p := ⟨q, 9, none⟩) hbq (.int .i64 4)
    generalize V.setCell ⟨q, 9, none⟩ (.int .i64 4) = V1 at *
    have y3 : V1.drew.cell? ⟨q, 3, none⟩ = some (.int .i64 size) := bq.cell' (i := 3) rfl
    have y5 : V1.drew.cell? ⟨q, 5, none⟩ = some (.int .i64 last) := bq.cell' (i := 5) rfl
    have y8 : V1.drew.cell? ⟨q, 8, none⟩ = some (.slice F fn fc) := bq.cell' (i := 8) rfl
    have y6 : V1.drew.cell? ⟨q, 6, none⟩ = some (.int .i64 sum) := bq.cell' (i := 6) rfl
    refine freeRegion (fun v => v.cell? ⟨q, 3, none⟩ = some (.int .i64 size) ∧ v.cell? ⟨q, 5, none⟩ = some (.int .i64 last) ∧ v.cell? ⟨q, 8, none⟩ = some (.slice F fn fc) ∧ v.cell? ⟨q, 6, none⟩ = some (.int .i64 sum)) (by kernel_rfl) (by kernel_rfl) ⟨y3, y5, y8, y6⟩ (fun hSS => ?_)
    clear hSS
    replace hM := hM.drewQ
    replace hB := hB.drew
    replace bq := bq.drew
    generalize V1.drew = V1d at *
    refine free_take 0 (v := ?vd0) rfl (by kernel_rfl) (by kernel_rfl) (fun _ _ _ h => h) (⟨y3, y5, y8, y6⟩) (Or.inl ⟨by rfl, ?yd0⟩) ?rd0
    case yd0 => intro w hSw; obtain ⟨hw3, hw5, hw8, hw6⟩ := hSw; (try dsimp only at hSw); go_simp; try rfl
    case' rd0 => try simp only [List.getElem_toArray, List.getElem_cons_succ, List.getElem_cons_zero, Act.put, List.setIfInBounds_toArray, List.set_cons_zero, List.set_cons_succ]
    refine free_take 1 (v := ?vd1) rfl (by kernel_rfl) (by kernel_rfl) (fun _ _ _ h => h) (⟨y3, y5, y8, y6⟩) (Or.inl ⟨by rfl, ?yd1⟩) ?rd1
    case yd1 => intro w hSw; obtain ⟨hw3, hw5, hw8, hw6⟩ := hSw; (try dsimp only at hSw); go_simp; try rfl
    case' rd1 => try simp only [List.getElem_toArray, List.getElem_cons_succ, List.getElem_cons_zero, Act.put, List.setIfInBounds_toArray, List.set_cons_zero, List.set_cons_succ]
    refine free_take 2 (v := ?vd2) rfl (by kernel_rfl) (by kernel_rfl) (fun _ _ _ h => h) (⟨y3, y5, y8, y6⟩) (Or.inl ⟨by rfl, ?yd2⟩) ?rd2
    case yd2 => intro w hSw; obtain ⟨hw3, hw5, hw8, hw6⟩ := hSw; (try dsimp only at hSw); go_simp; try rfl
    case' rd2 => try simp only [List.getElem_toArray, List.getElem_cons_succ, List.getElem_cons_zero, Act.put, List.setIfInBounds_toArray, List.set_cons_zero, List.set_cons_succ]
    refine free_take 3 (v := ?vd3) rfl (by kernel_rfl) (by kernel_rfl) (fun _ _ _ h => h) (⟨y3, y5, y8, y6⟩) (Or.inl ⟨by rfl, ?yd3⟩) ?rd3
    case yd3 => intro w hSw; obtain ⟨hw3, hw5, hw8, hw6⟩ := hSw; (try dsimp only at hSw); go_simp; try rfl
    case' rd3 => try simp only [List.getElem_toArray, List.getElem_cons_succ, List.getElem_cons_zero, Act.put, List.setIfInBounds_toArray, List.set_cons_zero, List.set_cons_succ]
    refine free_take 4 (v := ?vd4) rfl (by kernel_rfl) (by kernel_rfl) (fun _ _ _ h => h) (⟨y3, y5, y8, y6⟩) (Or.inl ⟨by rfl, ?yd4⟩) ?rd4
    case yd4 => intro w hSw; obtain ⟨hw3, hw5, hw8, hw6⟩ := hSw; (try dsimp only at hSw); go_simp; try rfl
    case' rd4 => try simp only [List.getElem_toArray, List.getElem_cons_succ, List.getElem_cons_zero, Act.put, List.setIfInBounds_toArray, List.set_cons_zero, List.set_cons_succ]
    refine free_take 5 (v := ?vd5) rfl (by kernel_rfl) (by kernel_rfl) (fun _ _ _ h => h) (⟨y3, y5, y8, y6⟩) (Or.inl ⟨by rfl, ?yd5⟩) ?rd5
    case yd5 => intro w hSw; obtain ⟨hw3, hw5, hw8, hw6⟩ := hSw; (try dsimp only at hSw); go_simp; try rfl
    case' rd5 => try simp only [List.getElem_toArray, List.getElem_cons_succ, List.getElem_cons_zero, Act.put, List.setIfInBounds_toArray, List.set_cons_zero, List.set_cons_succ]
    refine free_take 6 (v := ?vd6) rfl (by kernel_rfl) (by kernel_rfl) (fun _ _ _ h => h) (⟨y3, y5, y8, y6⟩) (Or.inl ⟨by rfl, ?yd6⟩) ?rd6
    case yd6 => intro w hSw; obtain ⟨hw3, hw5, hw8, hw6⟩ := hSw; (try dsimp only at hSw); go_simp; try rfl
    case' rd6 => try simp only [List.getElem_toArray, List.getElem_cons_succ, List.getElem_cons_zero, Act.put, List.setIfInBounds_toArray, List.set_cons_zero, List.set_cons_succ]
    refine free_take 7 (v := ?vd7) rfl (by kernel_rfl) (by kernel_rfl) (fun _ _ _ h => h) (⟨y3, y5, y8, y6⟩) (Or.inl ⟨by rfl, ?yd7⟩) ?rd7
    case yd7 => intro w hSw; obtain ⟨hw3, hw5, hw8, hw6⟩ := hSw; (try dsimp only at hSw); go_simp; try rfl
    case' rd7 => try simp only [List.getElem_toArray, List.getElem_cons_succ, List.getElem_cons_zero, Act.put, List.setIfInBounds_toArray, List.set_cons_zero, List.set_cons_succ]
    refine free_take 8 (v := ?vd8) rfl (by kernel_rfl) (by kernel_rfl) (fun _ _ _ h => h) (⟨y3, y5, y8, y6⟩) (Or.inl ⟨by rfl, ?yd8⟩) ?rd8
    case yd8 => intro w hSw; obtain ⟨hw3, hw5, hw8, hw6⟩ := hSw; (try dsimp only at hSw); go_simp; try rfl
    case' rd8 => try simp only [List.getElem_toArray, List.getElem_cons_succ, List.getElem_cons_zero, Act.put, List.setIfInBounds_toArray, List.set_cons_zero, List.set_cons_succ]
    refine free_take 9 (v := ?vd9) rfl (by kernel_rfl) (by kernel_rfl) (fun _ _ _ h => h) (⟨y3, y5, y8, y6⟩) (Or.inl ⟨by rfl, ?yd9⟩) ?rd9
    case yd9 => intro w hSw; obtain ⟨hw3, hw5, hw8, hw6⟩ := hSw; (try dsimp only at hSw); go_simp; try rfl
    case' rd9 => try simp only [List.getElem_toArray, List.getElem_cons_succ, List.getElem_cons_zero, Act.put, List.setIfInBounds_toArray, List.set_cons_zero, List.set_cons_succ]
    refine free_take 10 (v := ?vd10) rfl (by kernel_rfl) (by kernel_rfl) (fun _ _ _ h => h) (⟨y3, y5, y8, y6⟩) (Or.inl ⟨by rfl, ?yd10⟩) ?rd10
    case yd10 => intro w hSw; obtain ⟨hw3, hw5, hw8, hw6⟩ := hSw; (try dsimp only at hSw); go_simp; try rfl
    case' rd10 => try simp only [List.getElem_toArray, List.getElem_cons_succ, List.getElem_cons_zero, Act.put, List.setIfInBounds_toArray, List.set_cons_zero, List.set_cons_succ]
    refine free_take 11 (v := ?vd11) rfl (by kernel_rfl) (by kernel_rfl) (fun _ _ _ h => h) (⟨y3, y5, y8, y6⟩) (Or.inl ⟨by rfl, ?yd11⟩) ?rd11
    case yd11 => intro w hSw; obtain ⟨hw3, hw5, hw8, hw6⟩ := hSw; (try dsimp only at hSw); go_simp; try rfl
    case' rd11 => try simp only [List.getElem_toArray, List.getElem_cons_succ, List.getElem_cons_zero, Act.put, List.setIfInBounds_toArray, List.set_cons_zero, List.set_cons_succ]
    refine free_take 12 (v := undef) rfl (by kernel_rfl) (by kernel_rfl) (fun _ _ _ h => h) (⟨y3, y5, y8, y6⟩) (Or.inr ⟨by rfl, rfl⟩) ?rd12
    case' rd12 => try simp only [List.getElem_toArray, List.getElem_cons_succ, List.getElem_cons_zero, Act.put, List.setIfInBounds_toArray, List.set_cons_zero, List.set_cons_succ]
    refine free_take 13 (v := undef) rfl (by kernel_rfl) (by kernel_rfl) (fun _ _ _ h => h) (⟨y3, y5, y8, y6⟩) (Or.inr ⟨by rfl, rfl⟩) ?rd13
    case' rd13 => try simp only [List.getElem_toArray, List.getElem_cons_succ, List.getElem_cons_zero, Act.put, List.setIfInBounds_toArray, List.set_cons_zero, List.set_cons_succ]
    refine free_take 14 (v := undef) rfl (by kernel_rfl) (by kernel_rfl) (fun _ _ _ h => h) (⟨y3, y5, y8, y6⟩) (Or.inr ⟨by rfl, rfl⟩) ?rd14
    case' rd14 => try simp only [List.getElem_toArray, List.getElem_cons_succ, List.getElem_cons_zero, Act.put, List.setIfInBounds_toArray, List.set_cons_zero, List.set_cons_succ]
    refine free_take 15 (v := undef) rfl (by kernel_rfl) (by kernel_rfl) (fun _ _ _ h => h) (⟨y3, y5, y8, y6⟩) (Or.inr ⟨by rfl, rfl⟩) ?rd15
    case' rd15 => try simp only [List.getElem_toArray, List.getElem_cons_succ, List.getElem_cons_zero, Act.put, List.setIfInBounds_toArray, List.set_cons_zero, List.set_cons_succ]
    refine free_take 16 (v := undef) rfl (by kernel_rfl) (by kernel_rfl) (fun _ _ _ h => h) (⟨y3, y5, y8, y6⟩) (Or.inr ⟨by rfl, rfl⟩) ?rd16
    case' rd16 => try simp only [List.getElem_toArray, List.getElem_cons_succ, List.getElem_cons_zero, Act.put, List.setIfInBounds_toArray, List.set_cons_zero, List.set_cons_succ]
    refine free_take 17 (v := undef) rfl (by kernel_rfl) (by kernel_rfl) (fun _ _ _ h => h) (⟨y3, y5, y8, y6⟩) (Or.inr ⟨by rfl, rfl⟩) ?rd17
    case' rd17 => try simp only [List.getElem_toArray, List.getElem_cons_succ, List.getElem_cons_zero, Act.put, List.setIfInBounds_toArray, List.set_cons_zero, List.set_cons_succ]
    refine free_take 18 (v := undef) rfl (by kernel_rfl) (by kernel_rfl) (fun _ _ _ h => h) (⟨y3, y5, y8, y6⟩) (Or.inr ⟨by rfl, rfl⟩) ?rd18
    case' rd18 => try simp only [List.getElem_toArray, List.getElem_cons_succ, List.getElem_cons_zero, Act.put, List.setIfInBounds_toArray, List.set_cons_zero, List.set_cons_succ]
    refine free_take 19 (v := undef) rfl (by kernel_rfl) (by kernel_rfl) (fun _ _ _ h => h) (⟨y3, y5, y8, y6⟩) (Or.inr ⟨by rfl, rfl⟩) ?rd19
    case' rd19 => try simp only [List.getElem_toArray, List.getElem_cons_succ, List.getElem_cons_zero, Act.put, List.setIfInBounds_toArray, List.set_cons_zero, List.set_cons_succ]
    refine free_take 20 (v := undef) rfl (by kernel_rfl) (by kernel_rfl) (fun _ _ _ h => h) (⟨y3, y5, y8, y6⟩) (Or.inr ⟨by rfl, rfl⟩) ?rd20
    case' rd20 => try simp only [List.getElem_toArray, List.getElem_cons_succ, List.getElem_cons_zero, Act.put, List.setIfInBounds_toArray, List.set_cons_zero, List.set_cons_succ]
    refine free_take 21 (v := undef) rfl (by kernel_rfl) (by kernel_rfl) (fun _ _ _ h => h) (⟨y3, y5, y8, y6⟩) (Or.inr ⟨by rfl, rfl⟩) ?rd21
    case' rd21 => try simp only [List.getElem_toArray, List.getElem_cons_succ, List.getElem_cons_zero, Act.put, List.setIfInBounds_toArray, List.set_cons_zero, List.set_cons_succ]
    refine free_take 22 (v := undef) rfl (by kernel_rfl) (by kernel_rfl) (fun _ _ _ h => h) (⟨y3, y5, y8, y6⟩) (Or.inr ⟨by rfl, rfl⟩) ?rd22
    case' rd22 => try simp only [List.getElem_toArray, List.getElem_cons_succ, List.getElem_cons_zero, Act.put, List.setIfInBounds_toArray, List.set_cons_zero, List.set_cons_succ]
    refine free_take 23 (v := undef) rfl (by kernel_rfl) (by kernel_rfl) (fun _ _ _ h => h) (⟨y3, y5, y8, y6⟩) (Or.inr ⟨by rfl, rfl⟩) ?rd23
    case' rd23 => try simp only [List.getElem_toArray, List.getElem_cons_succ, List.getElem_cons_zero, Act.put, List.setIfInBounds_toArray, List.set_cons_zero, List.set_cons_succ]
    refine free_take 24 (v := undef) rfl (by kernel_rfl) (by kernel_rfl) (fun _ _ _ h => h) (⟨y3, y5, y8, y6⟩) (Or.inr ⟨by rfl, rfl⟩) ?rd24
    case' rd24 => try simp only [List.getElem_toArray, List.getElem_cons_succ, List.getElem_cons_zero, Act.put, List.setIfInBounds_toArray, List.set_cons_zero, List.set_cons_succ]
    refine free_take 25 (v := undef) rfl (by kernel_rfl) (by kernel_rfl) (fun _ _ _ h => h) (⟨y3, y5, y8, y6⟩) (Or.inr ⟨by rfl, rfl⟩) ?rd25
    case' rd25 => try simp only [List.getElem_toArray, List.getElem_cons_succ, List.getElem_cons_zero, Act.put, List.setIfInBounds_toArray, List.set_cons_zero, List.set_cons_succ]
    refine free_take 26 (v := undef) rfl (by kernel_rfl) (by kernel_rfl) (fun _ _ _ h => h) (⟨y3, y5, y8, y6⟩) (Or.inr ⟨by rfl, rfl⟩) ?rd26
    case' rd26 => try simp only [List.getElem_toArray, List.getElem_cons_succ, List.getElem_cons_zero, Act.put, List.setIfInBounds_toArray, List.set_cons_zero, List.set_cons_succ]
    refine free_take 27 (v := undef) rfl (by kernel_rfl) (by kernel_rfl) (fun _ _ _ h => h) (⟨y3, y5, y8, y6⟩) (Or.inr ⟨by rfl, rfl⟩) ?rd27
    case' rd27 => try simp only [List.getElem_toArray, List.getElem_cons_succ, List.getElem_cons_zero, Act.put, List.setIfInBounds_toArray, List.set_cons_zero, List.set_cons_succ]
    refine free_take 28 (v := undef) rfl (by kernel_rfl) (by kernel_rfl) (fun _ _ _ h => h) (⟨y3, y5, y8, y6⟩) (Or.inr ⟨by rfl, rfl⟩) ?rd28
    case' rd28 => try simp only [List.getElem_toArray, List.getElem_cons_succ, List.getElem_cons_zero, Act.put, List.setIfInBounds_toArray, List.set_cons_zero, List.set_cons_succ]
    refine free_take 29 (v := undef) rfl (by kernel_rfl) (by kernel_rfl) (fun _ _ _ h => h) (⟨y3, y5, y8, y6⟩) (Or.inr ⟨by rfl, rfl⟩) ?rd29
    case' rd29 => try simp only [List.getElem_toArray, List.getElem_cons_succ, List.getElem_cons_zero, Act.put, List.setIfInBounds_toArray, List.set_cons_zero, List.set_cons_succ]
    refine free_take 30 (v := ?vd30) rfl (by kernel_rfl) (by kernel_rfl) (fun _ _ _ h => h) (⟨y3, y5, y8, y6⟩) (Or.inl ⟨by rfl, ?yd30⟩) ?rd30
    case yd30 => intro w hSw; obtain ⟨hw3, hw5, hw8, hw6⟩ := hSw; (try dsimp only at hSw); go_simp; try rfl
    case' rd30 => try simp only [List.getElem_toArray, List.getElem_cons_succ, List.getElem_cons_zero, Act.put, List.setIfInBounds_toArray, List.set_cons_zero, List.set_cons_succ]
    refine free_end (by kernel_rfl) ?_
    clear y3 y5 y8 y6
    have zb := hB.size
    have CD := Lib.hid (done_at 9 (⟨id, true, name, size, true, last, sum, have_, file, 4, timer, patience, tries, limit⟩ : Tk) F fn fc A an ac O on oc l base q ns V1d bq hM hon (by omega) hbq)
    go_wp2_with fail
    refine CD.out.mono ?_
    intro e w9 h9
    have h9e : e = .returned (.tuple #[]) := by obtain ⟨O1, on1, oc1, l1, h, -⟩ := h9; exact h
    subst h9e
    go_wp2_with fail
    go_end0
    exact JudgeT.of HR.out HE.out (h9.down hB) (fun h => by cases h)
  ·
    subst hl
    have hlb : (size == size) = true := by rw [beq_iff_eq]
    obtain ⟨al, hal⟩ : ∃ al, allR have_ size = al := ⟨_, rfl⟩
    have HAL := Lib.hid hal
    cases al
    ·
      have HE := Lib.hid (judgeT_6 (x := (⟨id, true, name, size, true, size, sum, have_, file, stage, timer, patience, tries, limit⟩ : Tk)) rfl hal)
      clear hal HLG
      have y1 : w.drew.cell? ⟨q, 1, none⟩ = some (.bool true) := bq.cell' (i := 1) rfl
      have y4 : w.drew.cell? ⟨q, 4, none⟩ = some (.bool true) := bq.cell' (i := 4) rfl
      have y3 : w.drew.cell? ⟨q, 3, none⟩ = some (.int .i64 size) := bq.cell' (i := 3) rfl
      have y5 : w.drew.cell? ⟨q, 5, none⟩ = some (.int .i64 size) := bq.cell' (i := 5) rfl
      have y7 : w.drew.cell? ⟨q, 7, none⟩ = some (.slice A an ac) := bq.cell' (i := 7) rfl
      refine freeRegion (fun v => v.cell? ⟨q, 1, none⟩ = some (.bool true) ∧ v.cell? ⟨q, 4, none⟩ = some (.bool true) ∧ v.cell? ⟨q, 3, none⟩ = some (.int .i64 size) ∧ v.cell? ⟨q, 5, none⟩ = some (.int .i64 size) ∧ v.cell? ⟨q, 7, none⟩ = some (.slice A an ac)) (by kernel_rfl) (by kernel_rfl) ⟨y1, y4, y3, y5, y7⟩ (fun hSS => ?_)
      clear hSS
      replace hM := hM.drewQ
      replace hB := hB.drew
      replace hW := hW.drew
      replace bq := bq.drew
      generalize w.drew = V at *
      refine free_take 0 (v := ?ve0) rfl (by kernel_rfl) (by kernel_rfl) (fun _ _ _ h => h) (⟨y1, y4, y3, y5, y7⟩) (Or.inl ⟨by rfl, ?ye0⟩) ?re0
      case ye0 => intro w hSw; obtain ⟨hw1, hw4, hw3, hw5, hw7⟩ := hSw; (try dsimp only at hSw); go_simp; try rfl
      case' re0 => try simp only [List.getElem_toArray, List.getElem_cons_succ, List.getElem_cons_zero, Act.put, List.setIfInBounds_toArray, List.set_cons_zero, List.set_cons_succ]
      refine free_take 1 (v := ?ve1) rfl (by kernel_rfl) (by kernel_rfl) (fun _ _ _ h => h) (⟨y1, y4, y3, y5, y7⟩) (Or.inl ⟨by rfl, ?ye1⟩) ?re1
      case ye1 => intro w hSw; obtain ⟨hw1, hw4, hw3, hw5, hw7⟩ := hSw; (try dsimp only at hSw); go_simp; try rfl
      case' re1 => try simp only [List.getElem_toArray, List.getElem_cons_succ, List.getElem_cons_zero, Act.put, List.setIfInBounds_toArray, List.set_cons_zero, List.set_cons_succ]
      refine free_take 2 (v := ?ve2) rfl (by kernel_rfl) (by kernel_rfl) (fun _ _ _ h => h) (⟨y1, y4, y3, y5, y7⟩) (Or.inl ⟨by rfl, ?ye2⟩) ?re2
      case ye2 => intro w hSw; obtain ⟨hw1, hw4, hw3, hw5, hw7⟩ := hSw; (try dsimp only at hSw); go_simp; try rfl
      case' re2 => try simp only [List.getElem_toArray, List.getElem_cons_succ, List.getElem_cons_zero, Act.put, List.setIfInBounds_toArray, List.set_cons_zero, List.set_cons_succ]
      refine free_take 3 (v := ?ve3) rfl (by kernel_rfl) (by kernel_rfl) (fun _ _ _ h => h) (⟨y1, y4, y3, y5, y7⟩) (Or.inl ⟨by rfl, ?ye3⟩) ?re3
      case ye3 => intro w hSw; obtain ⟨hw1, hw4, hw3, hw5, hw7⟩ := hSw; (try dsimp only at hSw); go_simp; try rfl
      case' re3 => try simp only [List.getElem_toArray, List.getElem_cons_succ, List.getElem_cons_zero, Act.put, List.setIfInBounds_toArray, List.set_cons_zero, List.set_cons_succ]
      refine free_take 4 (v := ?ve4) rfl (by kernel_rfl) (by kernel_rfl) (fun _ _ _ h => h) (⟨y1, y4, y3, y5, y7⟩) (Or.inl ⟨by rfl, ?ye4⟩) ?re4
      case ye4 => intro w hSw; obtain ⟨hw1, hw4, hw3, hw5, hw7⟩ := hSw; (try dsimp only at hSw); go_simp; try rfl
      case' re4 => try simp only [List.getElem_toArray, List.getElem_cons_succ, List.getElem_cons_zero, Act.put, List.setIfInBounds_toArray, List.set_cons_zero, List.set_cons_succ]
      refine free_take 5 (v := ?ve5) rfl (by kernel_rfl) (by kernel_rfl) (fun _ _ _ h => h) (⟨y1, y4, y3, y5, y7⟩) (Or.inl ⟨by rfl, ?ye5⟩) ?re5
      case ye5 => intro w hSw; obtain ⟨hw1, hw4, hw3, hw5, hw7⟩ := hSw; (try dsimp only at hSw); go_simp; try rfl
      case' re5 => try simp only [List.getElem_toArray, List.getElem_cons_succ, List.getElem_cons_zero, Act.put, List.setIfInBounds_toArray, List.set_cons_zero, List.set_cons_succ]
      refine free_take 6 (v := ?ve6) rfl (by kernel_rfl) (by kernel_rfl) (fun _ _ _ h => h) (⟨y1, y4, y3, y5, y7⟩) (Or.inl ⟨by rfl, ?ye6⟩) ?re6
      case ye6 => intro w hSw; obtain ⟨hw1, hw4, hw3, hw5, hw7⟩ := hSw; (try dsimp only at hSw); go_simp; try rfl
      case' re6 => try simp only [List.getElem_toArray, List.getElem_cons_succ, List.getElem_cons_zero, Act.put, List.setIfInBounds_toArray, List.set_cons_zero, List.set_cons_succ]
      refine free_take 7 (v := ?ve7) rfl (by kernel_rfl) (by kernel_rfl) (fun _ _ _ h => h) (⟨y1, y4, y3, y5, y7⟩) (Or.inl ⟨by rfl, ?ye7⟩) ?re7
      case ye7 => intro w hSw; obtain ⟨hw1, hw4, hw3, hw5, hw7⟩ := hSw; (try dsimp only at hSw); go_simp; try rfl
      case' re7 => try simp only [List.getElem_toArray, List.getElem_cons_succ, List.getElem_cons_zero, Act.put, List.setIfInBounds_toArray, List.set_cons_zero, List.set_cons_succ]
      refine free_take 8 (v := ?ve8) rfl (by kernel_rfl) (by kernel_rfl) (fun _ _ _ h => h) (⟨y1, y4, y3, y5, y7⟩) (Or.inl ⟨by rfl, ?ye8⟩) ?re8
      case ye8 => intro w hSw; obtain ⟨hw1, hw4, hw3, hw5, hw7⟩ := hSw; (try dsimp only at hSw); go_simp; try rfl
      case' re8 => try simp only [List.getElem_toArray, List.getElem_cons_succ, List.getElem_cons_zero, Act.put, List.setIfInBounds_toArray, List.set_cons_zero, List.set_cons_succ]
      refine free_take 9 (v := ?ve9) rfl (by kernel_rfl) (by kernel_rfl) (fun _ _ _ h => h) (⟨y1, y4, y3, y5, y7⟩) (Or.inl ⟨by rfl, ?ye9⟩) ?re9
      case ye9 => intro w hSw; obtain ⟨hw1, hw4, hw3, hw5, hw7⟩ := hSw; (try dsimp only at hSw); go_simp; try rfl
      case' re9 => try simp only [List.getElem_toArray, List.getElem_cons_succ, List.getElem_cons_zero, Act.put, List.setIfInBounds_toArray, List.set_cons_zero, List.set_cons_succ]
      refine free_take 10 (v := ?ve10) rfl (by kernel_rfl) (by kernel_rfl) (fun _ _ _ h => h) (⟨y1, y4, y3, y5, y7⟩) (Or.inl ⟨by rfl, ?ye10⟩) ?re10
      case ye10 => intro w hSw; obtain ⟨hw1, hw4, hw3, hw5, hw7⟩ := hSw; (try dsimp only at hSw); go_simp; try rfl
      case' re10 => try simp only [List.getElem_toArray, List.getElem_cons_succ, List.getElem_cons_zero, Act.put, List.setIfInBounds_toArray, List.set_cons_zero, List.set_cons_succ]
      refine free_take 11 (v := ?ve11) rfl (by kernel_rfl) (by kernel_rfl) (fun _ _ _ h => h) (⟨y1, y4, y3, y5, y7⟩) (Or.inl ⟨by rfl, ?ye11⟩) ?re11
      case ye11 => intro w hSw; obtain ⟨hw1, hw4, hw3, hw5, hw7⟩ := hSw; (try dsimp only at hSw); go_simp; try rfl
      case' re11 => try simp only [List.getElem_toArray, List.getElem_cons_succ, List.getElem_cons_zero, Act.put, List.setIfInBounds_toArray, List.set_cons_zero, List.set_cons_succ]
      refine free_take 12 (v := ?ve12) rfl (by kernel_rfl) (by kernel_rfl) (fun _ _ _ h => h) (⟨y1, y4, y3, y5, y7⟩) (Or.inl ⟨by rfl, ?ye12⟩) ?re12
      case ye12 => intro w hSw; obtain ⟨hw1, hw4, hw3, hw5, hw7⟩ := hSw; (try dsimp only at hSw); go_simp; try rfl
      case' re12 => try simp only [List.getElem_toArray, List.getElem_cons_succ, List.getElem_cons_zero, Act.put, List.setIfInBounds_toArray, List.set_cons_zero, List.set_cons_succ]
      refine free_take 13 (v := ?ve13) rfl (by kernel_rfl) (by kernel_rfl) (fun _ _ _ h => h) (⟨y1, y4, y3, y5, y7⟩) (Or.inl ⟨by rfl, ?ye13⟩) ?re13
      case ye13 => intro w hSw; obtain ⟨hw1, hw4, hw3, hw5, hw7⟩ := hSw; (try dsimp only at hSw); go_simp; try rfl
      case' re13 => try simp only [List.getElem_toArray, List.getElem_cons_succ, List.getElem_cons_zero, Act.put, List.setIfInBounds_toArray, List.set_cons_zero, List.set_cons_succ]
      refine free_take 14 (v := ?ve14) rfl (by kernel_rfl) (by kernel_rfl) (fun _ _ _ h => h) (⟨y1, y4, y3, y5, y7⟩) (Or.inl ⟨by rfl, ?ye14⟩) ?re14
      case ye14 => intro w hSw; obtain ⟨hw1, hw4, hw3, hw5, hw7⟩ := hSw; (try dsimp only at hSw); go_simp; try rfl
      case' re14 => try simp only [List.getElem_toArray, List.getElem_cons_succ, List.getElem_cons_zero, Act.put, List.setIfInBounds_toArray, List.set_cons_zero, List.set_cons_succ]
      refine free_take 15 (v := ?ve15) rfl (by kernel_rfl) (by kernel_rfl) (fun _ _ _ h => h) (⟨y1, y4, y3, y5, y7⟩) (Or.inl ⟨by rfl, ?ye15⟩) ?re15
      case ye15 => intro w hSw; obtain ⟨hw1, hw4, hw3, hw5, hw7⟩ := hSw; (try dsimp only at hSw); go_simp; try rfl
      case' re15 => try simp only [List.getElem_toArray, List.getElem_cons_succ, List.getElem_cons_zero, Act.put, List.setIfInBounds_toArray, List.set_cons_zero, List.set_cons_succ]
      refine free_take 16 (v := ?ve16) rfl (by kernel_rfl) (by kernel_rfl) (fun _ _ _ h => h) (⟨y1, y4, y3, y5, y7⟩) (Or.inl ⟨by rfl, ?ye16⟩) ?re16
      case ye16 => intro w hSw; obtain ⟨hw1, hw4, hw3, hw5, hw7⟩ := hSw; (try dsimp only at hSw); go_simp; try rfl
      case' re16 => try simp only [List.getElem_toArray, List.getElem_cons_succ, List.getElem_cons_zero, Act.put, List.setIfInBounds_toArray, List.set_cons_zero, List.set_cons_succ]
      refine free_take 17 (v := ?ve17) rfl (by kernel_rfl) (by kernel_rfl) (fun _ _ _ h => h) (⟨y1, y4, y3, y5, y7⟩) (Or.inl ⟨by rfl, ?ye17⟩) ?re17
      case ye17 => intro w hSw; obtain ⟨hw1, hw4, hw3, hw5, hw7⟩ := hSw; (try dsimp only at hSw); go_simp; try rfl
      case' re17 => try simp only [List.getElem_toArray, List.getElem_cons_succ, List.getElem_cons_zero, Act.put, List.setIfInBounds_toArray, List.set_cons_zero, List.set_cons_succ]
      refine free_take 18 (v := ?ve18) rfl (by kernel_rfl) (by kernel_rfl) (fun _ _ _ h => h) (⟨y1, y4, y3, y5, y7⟩) (Or.inl ⟨by rfl, ?ye18⟩) ?re18
      case ye18 => intro w hSw; obtain ⟨hw1, hw4, hw3, hw5, hw7⟩ := hSw; (try dsimp only at hSw); go_simp; try rfl
      case' re18 => try simp only [List.getElem_toArray, List.getElem_cons_succ, List.getElem_cons_zero, Act.put, List.setIfInBounds_toArray, List.set_cons_zero, List.set_cons_succ]
      refine free_take 19 (v := ?ve19) rfl (by kernel_rfl) (by kernel_rfl) (fun _ _ _ h => h) (⟨y1, y4, y3, y5, y7⟩) (Or.inl ⟨by rfl, ?ye19⟩) ?re19
      case ye19 => intro w hSw; obtain ⟨hw1, hw4, hw3, hw5, hw7⟩ := hSw; (try dsimp only at hSw); go_simp; try rfl
      case' re19 => try simp only [List.getElem_toArray, List.getElem_cons_succ, List.getElem_cons_zero, Act.put, List.setIfInBounds_toArray, List.set_cons_zero, List.set_cons_succ]
      refine free_take 20 (v := ?ve20) rfl (by kernel_rfl) (by kernel_rfl) (fun _ _ _ h => h) (⟨y1, y4, y3, y5, y7⟩) (Or.inl ⟨by rfl, ?ye20⟩) ?re20
      case ye20 => intro w hSw; obtain ⟨hw1, hw4, hw3, hw5, hw7⟩ := hSw; (try dsimp only at hSw); go_simp; try rfl
      case' re20 => try simp only [List.getElem_toArray, List.getElem_cons_succ, List.getElem_cons_zero, Act.put, List.setIfInBounds_toArray, List.set_cons_zero, List.set_cons_succ]
      refine free_take 21 (v := ?ve21) rfl (by kernel_rfl) (by kernel_rfl) (fun _ _ _ h => h) (⟨y1, y4, y3, y5, y7⟩) (Or.inl ⟨by rfl, ?ye21⟩) ?re21
      case ye21 => intro w hSw; obtain ⟨hw1, hw4, hw3, hw5, hw7⟩ := hSw; (try dsimp only at hSw); go_simp; try rfl
      case' re21 => try simp only [List.getElem_toArray, List.getElem_cons_succ, List.getElem_cons_zero, Act.put, List.setIfInBounds_toArray, List.set_cons_zero, List.set_cons_succ]
      refine free_take 22 (v := ?ve22) rfl (by kernel_rfl) (by kernel_rfl) (fun _ _ _ h => h) (⟨y1, y4, y3, y5, y7⟩) (Or.inl ⟨by rfl, ?ye22⟩) ?re22
      case ye22 => intro w hSw; obtain ⟨hw1, hw4, hw3, hw5, hw7⟩ := hSw; (try dsimp only at hSw); go_simp; try rfl
      case' re22 => try simp only [List.getElem_toArray, List.getElem_cons_succ, List.getElem_cons_zero, Act.put, List.setIfInBounds_toArray, List.set_cons_zero, List.set_cons_succ]
      refine free_take 23 (v := ?ve23) rfl (by kernel_rfl) (by kernel_rfl) (fun _ _ _ h => h) (⟨y1, y4, y3, y5, y7⟩) (Or.inl ⟨by rfl, ?ye23⟩) ?re23
      case ye23 => intro w hSw; obtain ⟨hw1, hw4, hw3, hw5, hw7⟩ := hSw; (try dsimp only at hSw); go_simp; try rfl
      case' re23 => try simp only [List.getElem_toArray, List.getElem_cons_succ, List.getElem_cons_zero, Act.put, List.setIfInBounds_toArray, List.set_cons_zero, List.set_cons_succ]
      refine free_take 24 (v := ?ve24) rfl (by kernel_rfl) (by kernel_rfl) (fun _ _ _ h => h) (⟨y1, y4, y3, y5, y7⟩) (Or.inl ⟨by rfl, ?ye24⟩) ?re24
      case ye24 => intro w hSw; obtain ⟨hw1, hw4, hw3, hw5, hw7⟩ := hSw; (try dsimp only at hSw); go_simp; try rfl
      case' re24 => try simp only [List.getElem_toArray, List.getElem_cons_succ, List.getElem_cons_zero, Act.put, List.setIfInBounds_toArray, List.set_cons_zero, List.set_cons_succ]
      refine free_take 25 (v := ?ve25) rfl (by kernel_rfl) (by kernel_rfl) (fun _ _ _ h => h) (⟨y1, y4, y3, y5, y7⟩) (Or.inl ⟨by rfl, ?ye25⟩) ?re25
      case ye25 => intro w hSw; obtain ⟨hw1, hw4, hw3, hw5, hw7⟩ := hSw; (try dsimp only at hSw); go_simp; try rfl
      case' re25 => try simp only [List.getElem_toArray, List.getElem_cons_succ, List.getElem_cons_zero, Act.put, List.setIfInBounds_toArray, List.set_cons_zero, List.set_cons_succ]
      refine free_take 26 (v := ?ve26) rfl (by kernel_rfl) (by kernel_rfl) (fun _ _ _ h => h) (⟨y1, y4, y3, y5, y7⟩) (Or.inl ⟨by rfl, ?ye26⟩) ?re26
      case ye26 => intro w hSw; obtain ⟨hw1, hw4, hw3, hw5, hw7⟩ := hSw; (try dsimp only at hSw); go_simp; try rfl
      case' re26 => try simp only [List.getElem_toArray, List.getElem_cons_succ, List.getElem_cons_zero, Act.put, List.setIfInBounds_toArray, List.set_cons_zero, List.set_cons_succ]
      refine free_take 27 (v := ?ve27) rfl (by kernel_rfl) (by kernel_rfl) (fun _ _ _ h => h) (⟨y1, y4, y3, y5, y7⟩) (Or.inl ⟨by rfl, ?ye27⟩) ?re27
      case ye27 => intro w hSw; obtain ⟨hw1, hw4, hw3, hw5, hw7⟩ := hSw; (try dsimp only at hSw); go_simp; try rfl
      case' re27 => try simp only [List.getElem_toArray, List.getElem_cons_succ, List.getElem_cons_zero, Act.put, List.setIfInBounds_toArray, List.set_cons_zero, List.set_cons_succ]
      refine free_take 28 (v := ?ve28) rfl (by kernel_rfl) (by kernel_rfl) (fun _ _ _ h => h) (⟨y1, y4, y3, y5, y7⟩) (Or.inl ⟨by rfl, ?ye28⟩) ?re28
      case ye28 => intro w hSw; obtain ⟨hw1, hw4, hw3, hw5, hw7⟩ := hSw; (try dsimp only at hSw); go_simp; try rfl
      case' re28 => try simp only [List.getElem_toArray, List.getElem_cons_succ, List.getElem_cons_zero, Act.put, List.setIfInBounds_toArray, List.set_cons_zero, List.set_cons_succ]
      refine free_take 29 (v := ?ve29) rfl (by kernel_rfl) (by kernel_rfl) (fun _ _ _ h => h) (⟨y1, y4, y3, y5, y7⟩) (Or.inl ⟨by rfl, ?ye29⟩) ?re29
      case ye29 => intro w hSw; obtain ⟨hw1, hw4, hw3, hw5, hw7⟩ := hSw; (try dsimp only at hSw); go_simp; try rfl
      case' re29 => try simp only [List.getElem_toArray, List.getElem_cons_succ, List.getElem_cons_zero, Act.put, List.setIfInBounds_toArray, List.set_cons_zero, List.set_cons_succ]
      refine free_take 30 (v := ?ve30) rfl (by kernel_rfl) (by kernel_rfl) (fun _ _ _ h => h) (⟨y1, y4, y3, y5, y7⟩) (Or.inl ⟨by rfl, ?ye30⟩) ?re30
      case ye30 => intro w hSw; obtain ⟨hw1, hw4, hw3, hw5, hw7⟩ := hSw; (try dsimp only at hSw); go_simp; try rfl
      case' re30 => try simp only [List.getElem_toArray, List.getElem_cons_succ, List.getElem_cons_zero, Act.put, List.setIfInBounds_toArray, List.set_cons_zero, List.set_cons_succ]
      refine free_take 31 (v := ?ve31) rfl (by kernel_rfl) (by kernel_rfl) (fun _ _ _ h => h) (⟨y1, y4, y3, y5, y7⟩) (Or.inl ⟨by rfl, ?ye31⟩) ?re31
      case ye31 => intro w hSw; obtain ⟨hw1, hw4, hw3, hw5, hw7⟩ := hSw; (try dsimp only at hSw); go_simp; try rfl
      case' re31 => try simp only [List.getElem_toArray, List.getElem_cons_succ, List.getElem_cons_zero, Act.put, List.setIfInBounds_toArray, List.set_cons_zero, List.set_cons_succ]
      refine free_take 32 (v := ?ve32) rfl (by kernel_rfl) (by kernel_rfl) (fun _ _ _ h => h) (⟨y1, y4, y3, y5, y7⟩) (Or.inl ⟨by rfl, ?ye32⟩) ?re32
      case ye32 => intro w hSw; obtain ⟨hw1, hw4, hw3, hw5, hw7⟩ := hSw; (try dsimp only at hSw); go_simp; try rfl
      case' re32 => try simp only [List.getElem_toArray, List.getElem_cons_succ, List.getElem_cons_zero, Act.put, List.setIfInBounds_toArray, List.set_cons_zero, List.set_cons_succ]
      refine free_take 33 (v := ?ve33) rfl (by kernel_rfl) (by kernel_rfl) (fun _ _ _ h => h) (⟨y1, y4, y3, y5, y7⟩) (Or.inl ⟨by rfl, ?ye33⟩) ?re33
      case ye33 => intro w hSw; obtain ⟨hw1, hw4, hw3, hw5, hw7⟩ := hSw; (try dsimp only at hSw); go_simp; try rfl
      case' re33 => try simp only [List.getElem_toArray, List.getElem_cons_succ, List.getElem_cons_zero, Act.put, List.setIfInBounds_toArray, List.set_cons_zero, List.set_cons_succ]
      refine free_take 34 (v := ?ve34) rfl (by kernel_rfl) (by kernel_rfl) (fun _ _ _ h => h) (⟨y1, y4, y3, y5, y7⟩) (Or.inl ⟨by rfl, ?ye34⟩) ?re34
      case ye34 => intro w hSw; obtain ⟨hw1, hw4, hw3, hw5, hw7⟩ := hSw; (try dsimp only at hSw); go_simp; try rfl
      case' re34 => try simp only [List.getElem_toArray, List.getElem_cons_succ, List.getElem_cons_zero, Act.put, List.setIfInBounds_toArray, List.set_cons_zero, List.set_cons_succ]
      refine free_take 35 (v := ?ve35) rfl (by kernel_rfl) (by kernel_rfl) (fun _ _ _ h => h) (⟨y1, y4, y3, y5, y7⟩) (Or.inl ⟨by rfl, ?ye35⟩) ?re35
      case ye35 => intro w hSw; obtain ⟨hw1, hw4, hw3, hw5, hw7⟩ := hSw; (try dsimp only at hSw); go_simp; try rfl
      case' re35 => try simp only [List.getElem_toArray, List.getElem_cons_succ, List.getElem_cons_zero, Act.put, List.setIfInBounds_toArray, List.set_cons_zero, List.set_cons_succ]
      refine free_take 36 (v := ?ve36) rfl (by kernel_rfl) (by kernel_rfl) (fun _ _ _ h => h) (⟨y1, y4, y3, y5, y7⟩) (Or.inl ⟨by rfl, ?ye36⟩) ?re36
      case ye36 => intro w hSw; obtain ⟨hw1, hw4, hw3, hw5, hw7⟩ := hSw; (try dsimp only at hSw); go_simp; try rfl
      case' re36 => try simp only [List.getElem_toArray, List.getElem_cons_succ, List.getElem_cons_zero, Act.put, List.setIfInBounds_toArray, List.set_cons_zero, List.set_cons_succ]
      have CA := Lib.hid (all_any have_ A an ac size V hM.al hM.again.rd (by omega))
      refine free_step 37 rfl (by kernel_rfl) (fun K hK => ?calle)
      case calle =>
        go_simp
        refine CA.out.mono ?_
        rintro e w1 ⟨rfl, hb⟩
        replace hM := hM.step hb
        replace bq := bq.step hb
        replace hB := hB.trans (hb.mono (by have := hB.size; omega))
        replace hW := hW.trans (hb.mono hW.size)
        clear y1 y4 y3 y5 y7
        have y1 := bq.cell' (i := 1) rfl
        have y4 := bq.cell' (i := 4) rfl
        have y3 := bq.cell' (i := 3) rfl
        have y5 := bq.cell' (i := 5) rfl
        have y7 := bq.cell' (i := 7) rfl
        refine hK _ _ ⟨y1, y4, y3, y5, y7⟩ ?_
        clear hK K hb CA
        rw [HAL.out]
        try simp only [List.getElem_toArray, List.getElem_cons_succ, List.getElem_cons_zero, Act.put, List.setIfInBounds_toArray, List.set_cons_zero, List.set_cons_succ]
        refine free_take 38 (v := ?ve38) rfl (by kernel_rfl) (by kernel_rfl) (fun _ _ _ h => h) (⟨y1, y4, y3, y5, y7⟩) (Or.inl ⟨by rfl, ?ye38⟩) ?re38
        case ye38 => intro w hSw; obtain ⟨hw1, hw4, hw3, hw5, hw7⟩ := hSw; (try dsimp only at hSw); go_simp; try rfl
        case' re38 => try simp only [List.getElem_toArray, List.getElem_cons_succ, List.getElem_cons_zero, Act.put, List.setIfInBounds_toArray, List.set_cons_zero, List.set_cons_succ]
        refine free_take 39 (v := ?ve39) rfl (by kernel_rfl) (by kernel_rfl) (fun _ _ _ h => h) (⟨y1, y4, y3, y5, y7⟩) (Or.inl ⟨by rfl, ?ye39⟩) ?re39
        case ye39 => intro w hSw; obtain ⟨hw1, hw4, hw3, hw5, hw7⟩ := hSw; (try dsimp only at hSw); go_simp; try rfl
        case' re39 => try simp only [List.getElem_toArray, List.getElem_cons_succ, List.getElem_cons_zero, Act.put, List.setIfInBounds_toArray, List.set_cons_zero, List.set_cons_succ]
        refine free_take 40 (v := ?ve40) rfl (by kernel_rfl) (by kernel_rfl) (fun _ _ _ h => h) (⟨y1, y4, y3, y5, y7⟩) (Or.inl ⟨by rfl, ?ye40⟩) ?re40
        case ye40 => intro w hSw; obtain ⟨hw1, hw4, hw3, hw5, hw7⟩ := hSw; (try dsimp only at hSw); go_simp; try rfl
        case' re40 => try simp only [List.getElem_toArray, List.getElem_cons_succ, List.getElem_cons_zero, Act.put, List.setIfInBounds_toArray, List.set_cons_zero, List.set_cons_succ]
        refine free_end (by kernel_rfl) ?_
        clear y1 y4 y3 y5 y7
        go_wp2_with fail
        refine bodyPost_ret (v := .tuple #[]) (by simp [results, Try.results106, go_sem]) rfl ?_
        exact JudgeT.of HR.out HE.out ⟨O, on, oc, l, rfl, bq, (by rw [List.append_nil]; exact hM), hB⟩ (fun _ => hW)
    ·
      have hlo := HLG.out hal
      obtain ⟨sn, rfl⟩ : ∃ sn : Nat, size = (sn : Int) := ⟨size.toNat, by omega⟩
      have hsf : sn ≤ fn := by rw [HFL.out] at hlo; omega
      have hfcap : fn ≤ fc := hM.file.le
      have hsc : (sn : Int) ≤ (fc : Int) := by omega
      have hs0 : (0 : Int) ≤ (sn : Int) := by omega
      obtain ⟨sm, hsm⟩ : ∃ sm, fileSum (file.take sn) = sm := ⟨_, rfl⟩
      have HSM := Lib.hid hsm
      have HE2 := Lib.hid (fun h => judgeT_2 (x := (⟨id, true, name, (sn : Int), true, (sn : Int), sum, have_, file, stage, timer, patience, tries, limit⟩ : Tk)) rfl rfl rfl hal h)
      have HE3 := Lib.hid (fun h => judgeT_3 (x := (⟨id, true, name, (sn : Int), true, (sn : Int), sum, have_, file, stage, timer, patience, tries, limit⟩ : Tk)) rfl rfl rfl hal h)
      clear hal hlo hsm HLG
      have y1 : w.drew.cell? ⟨q, 1, none⟩ = some (.bool true) := bq.cell' (i := 1) rfl
      have y4 : w.drew.cell? ⟨q, 4, none⟩ = some (.bool true) := bq.cell' (i := 4) rfl
      have y3 : w.drew.cell? ⟨q, 3, none⟩ = some (.int .i64 (sn : Int)) := bq.cell' (i := 3) rfl
      have y5 : w.drew.cell? ⟨q, 5, none⟩ = some (.int .i64 (sn : Int)) := bq.cell' (i := 5) rfl
      have y7 : w.drew.cell? ⟨q, 7, none⟩ = some (.slice A an ac) := bq.cell' (i := 7) rfl
      refine freeRegion (fun v => v.cell? ⟨q, 1, none⟩ = some (.bool true) ∧ v.cell? ⟨q, 4, none⟩ = some (.bool true) ∧ v.cell? ⟨q, 3, none⟩ = some (.int .i64 (sn : Int)) ∧ v.cell? ⟨q, 5, none⟩ = some (.int .i64 (sn : Int)) ∧ v.cell? ⟨q, 7, none⟩ = some (.slice A an ac)) (by kernel_rfl) (by kernel_rfl) ⟨y1, y4, y3, y5, y7⟩ (fun hSS => ?_)
      clear hSS
      replace hM := hM.drewQ
      replace hB := hB.drew
      replace hW := hW.drew
      replace bq := bq.drew
      generalize w.drew = V at *
      refine free_take 0 (v := ?vf0) rfl (by kernel_rfl) (by kernel_rfl) (fun _ _ _ h => h) (⟨y1, y4, y3, y5, y7⟩) (Or.inl ⟨by rfl, ?yf0⟩) ?rf0
      case yf0 => intro w hSw; obtain ⟨hw1, hw4, hw3, hw5, hw7⟩ := hSw; (try dsimp only at hSw); go_simp; try rfl
      case' rf0 => try simp only [List.getElem_toArray, List.getElem_cons_succ, List.getElem_cons_zero, Act.put, List.setIfInBounds_toArray, List.set_cons_zero, List.set_cons_succ]
      refine free_take 1 (v := ?vf1) rfl (by kernel_rfl) (by kernel_rfl) (fun _ _ _ h => h) (⟨y1, y4, y3, y5, y7⟩) (Or.inl ⟨by rfl, ?yf1⟩) ?rf1
      case yf1 => intro w hSw; obtain ⟨hw1, hw4, hw3, hw5, hw7⟩ := hSw; (try dsimp only at hSw); go_simp; try rfl
      case' rf1 => try simp only [List.getElem_toArray, List.getElem_cons_succ, List.getElem_cons_zero, Act.put, List.setIfInBounds_toArray, List.set_cons_zero, List.set_cons_succ]
      refine free_take 2 (v := ?vf2) rfl (by kernel_rfl) (by kernel_rfl) (fun _ _ _ h => h) (⟨y1, y4, y3, y5, y7⟩) (Or.inl ⟨by rfl, ?yf2⟩) ?rf2
      case yf2 => intro w hSw; obtain ⟨hw1, hw4, hw3, hw5, hw7⟩ := hSw; (try dsimp only at hSw); go_simp; try rfl
      case' rf2 => try simp only [List.getElem_toArray, List.getElem_cons_succ, List.getElem_cons_zero, Act.put, List.setIfInBounds_toArray, List.set_cons_zero, List.set_cons_succ]
      refine free_take 3 (v := ?vf3) rfl (by kernel_rfl) (by kernel_rfl) (fun _ _ _ h => h) (⟨y1, y4, y3, y5, y7⟩) (Or.inl ⟨by rfl, ?yf3⟩) ?rf3
      case yf3 => intro w hSw; obtain ⟨hw1, hw4, hw3, hw5, hw7⟩ := hSw; (try dsimp only at hSw); go_simp; try rfl
      case' rf3 => try simp only [List.getElem_toArray, List.getElem_cons_succ, List.getElem_cons_zero, Act.put, List.setIfInBounds_toArray, List.set_cons_zero, List.set_cons_succ]
      refine free_take 4 (v := ?vf4) rfl (by kernel_rfl) (by kernel_rfl) (fun _ _ _ h => h) (⟨y1, y4, y3, y5, y7⟩) (Or.inl ⟨by rfl, ?yf4⟩) ?rf4
      case yf4 => intro w hSw; obtain ⟨hw1, hw4, hw3, hw5, hw7⟩ := hSw; (try dsimp only at hSw); go_simp; try rfl
      case' rf4 => try simp only [List.getElem_toArray, List.getElem_cons_succ, List.getElem_cons_zero, Act.put, List.setIfInBounds_toArray, List.set_cons_zero, List.set_cons_succ]
      refine free_take 5 (v := ?vf5) rfl (by kernel_rfl) (by kernel_rfl) (fun _ _ _ h => h) (⟨y1, y4, y3, y5, y7⟩) (Or.inl ⟨by rfl, ?yf5⟩) ?rf5
      case yf5 => intro w hSw; obtain ⟨hw1, hw4, hw3, hw5, hw7⟩ := hSw; (try dsimp only at hSw); go_simp; try rfl
      case' rf5 => try simp only [List.getElem_toArray, List.getElem_cons_succ, List.getElem_cons_zero, Act.put, List.setIfInBounds_toArray, List.set_cons_zero, List.set_cons_succ]
      refine free_take 6 (v := ?vf6) rfl (by kernel_rfl) (by kernel_rfl) (fun _ _ _ h => h) (⟨y1, y4, y3, y5, y7⟩) (Or.inl ⟨by rfl, ?yf6⟩) ?rf6
      case yf6 => intro w hSw; obtain ⟨hw1, hw4, hw3, hw5, hw7⟩ := hSw; (try dsimp only at hSw); go_simp; try rfl
      case' rf6 => try simp only [List.getElem_toArray, List.getElem_cons_succ, List.getElem_cons_zero, Act.put, List.setIfInBounds_toArray, List.set_cons_zero, List.set_cons_succ]
      refine free_take 7 (v := ?vf7) rfl (by kernel_rfl) (by kernel_rfl) (fun _ _ _ h => h) (⟨y1, y4, y3, y5, y7⟩) (Or.inl ⟨by rfl, ?yf7⟩) ?rf7
      case yf7 => intro w hSw; obtain ⟨hw1, hw4, hw3, hw5, hw7⟩ := hSw; (try dsimp only at hSw); go_simp; try rfl
      case' rf7 => try simp only [List.getElem_toArray, List.getElem_cons_succ, List.getElem_cons_zero, Act.put, List.setIfInBounds_toArray, List.set_cons_zero, List.set_cons_succ]
      refine free_take 8 (v := ?vf8) rfl (by kernel_rfl) (by kernel_rfl) (fun _ _ _ h => h) (⟨y1, y4, y3, y5, y7⟩) (Or.inl ⟨by rfl, ?yf8⟩) ?rf8
      case yf8 => intro w hSw; obtain ⟨hw1, hw4, hw3, hw5, hw7⟩ := hSw; (try dsimp only at hSw); go_simp; try rfl
      case' rf8 => try simp only [List.getElem_toArray, List.getElem_cons_succ, List.getElem_cons_zero, Act.put, List.setIfInBounds_toArray, List.set_cons_zero, List.set_cons_succ]
      refine free_take 9 (v := ?vf9) rfl (by kernel_rfl) (by kernel_rfl) (fun _ _ _ h => h) (⟨y1, y4, y3, y5, y7⟩) (Or.inl ⟨by rfl, ?yf9⟩) ?rf9
      case yf9 => intro w hSw; obtain ⟨hw1, hw4, hw3, hw5, hw7⟩ := hSw; (try dsimp only at hSw); go_simp; try rfl
      case' rf9 => try simp only [List.getElem_toArray, List.getElem_cons_succ, List.getElem_cons_zero, Act.put, List.setIfInBounds_toArray, List.set_cons_zero, List.set_cons_succ]
      refine free_take 10 (v := ?vf10) rfl (by kernel_rfl) (by kernel_rfl) (fun _ _ _ h => h) (⟨y1, y4, y3, y5, y7⟩) (Or.inl ⟨by rfl, ?yf10⟩) ?rf10
      case yf10 => intro w hSw; obtain ⟨hw1, hw4, hw3, hw5, hw7⟩ := hSw; (try dsimp only at hSw); go_simp; try rfl
      case' rf10 => try simp only [List.getElem_toArray, List.getElem_cons_succ, List.getElem_cons_zero, Act.put, List.setIfInBounds_toArray, List.set_cons_zero, List.set_cons_succ]
      refine free_take 11 (v := ?vf11) rfl (by kernel_rfl) (by kernel_rfl) (fun _ _ _ h => h) (⟨y1, y4, y3, y5, y7⟩) (Or.inl ⟨by rfl, ?yf11⟩) ?rf11
      case yf11 => intro w hSw; obtain ⟨hw1, hw4, hw3, hw5, hw7⟩ := hSw; (try dsimp only at hSw); go_simp; try rfl
      case' rf11 => try simp only [List.getElem_toArray, List.getElem_cons_succ, List.getElem_cons_zero, Act.put, List.setIfInBounds_toArray, List.set_cons_zero, List.set_cons_succ]
      refine free_take 12 (v := ?vf12) rfl (by kernel_rfl) (by kernel_rfl) (fun _ _ _ h => h) (⟨y1, y4, y3, y5, y7⟩) (Or.inl ⟨by rfl, ?yf12⟩) ?rf12
      case yf12 => intro w hSw; obtain ⟨hw1, hw4, hw3, hw5, hw7⟩ := hSw; (try dsimp only at hSw); go_simp; try rfl
      case' rf12 => try simp only [List.getElem_toArray, List.getElem_cons_succ, List.getElem_cons_zero, Act.put, List.setIfInBounds_toArray, List.set_cons_zero, List.set_cons_succ]
      refine free_take 13 (v := ?vf13) rfl (by kernel_rfl) (by kernel_rfl) (fun _ _ _ h => h) (⟨y1, y4, y3, y5, y7⟩) (Or.inl ⟨by rfl, ?yf13⟩) ?rf13
      case yf13 => intro w hSw; obtain ⟨hw1, hw4, hw3, hw5, hw7⟩ := hSw; (try dsimp only at hSw); go_simp; try rfl
      case' rf13 => try simp only [List.getElem_toArray, List.getElem_cons_succ, List.getElem_cons_zero, Act.put, List.setIfInBounds_toArray, List.set_cons_zero, List.set_cons_succ]
      refine free_take 14 (v := ?vf14) rfl (by kernel_rfl) (by kernel_rfl) (fun _ _ _ h => h) (⟨y1, y4, y3, y5, y7⟩) (Or.inl ⟨by rfl, ?yf14⟩) ?rf14
      case yf14 => intro w hSw; obtain ⟨hw1, hw4, hw3, hw5, hw7⟩ := hSw; (try dsimp only at hSw); go_simp; try rfl
      case' rf14 => try simp only [List.getElem_toArray, List.getElem_cons_succ, List.getElem_cons_zero, Act.put, List.setIfInBounds_toArray, List.set_cons_zero, List.set_cons_succ]
      refine free_take 15 (v := ?vf15) rfl (by kernel_rfl) (by kernel_rfl) (fun _ _ _ h => h) (⟨y1, y4, y3, y5, y7⟩) (Or.inl ⟨by rfl, ?yf15⟩) ?rf15
      case yf15 => intro w hSw; obtain ⟨hw1, hw4, hw3, hw5, hw7⟩ := hSw; (try dsimp only at hSw); go_simp; try rfl
      case' rf15 => try simp only [List.getElem_toArray, List.getElem_cons_succ, List.getElem_cons_zero, Act.put, List.setIfInBounds_toArray, List.set_cons_zero, List.set_cons_succ]
      refine free_take 16 (v := ?vf16) rfl (by kernel_rfl) (by kernel_rfl) (fun _ _ _ h => h) (⟨y1, y4, y3, y5, y7⟩) (Or.inl ⟨by rfl, ?yf16⟩) ?rf16
      case yf16 => intro w hSw; obtain ⟨hw1, hw4, hw3, hw5, hw7⟩ := hSw; (try dsimp only at hSw); go_simp; try rfl
      case' rf16 => try simp only [List.getElem_toArray, List.getElem_cons_succ, List.getElem_cons_zero, Act.put, List.setIfInBounds_toArray, List.set_cons_zero, List.set_cons_succ]
      refine free_take 17 (v := ?vf17) rfl (by kernel_rfl) (by kernel_rfl) (fun _ _ _ h => h) (⟨y1, y4, y3, y5, y7⟩) (Or.inl ⟨by rfl, ?yf17⟩) ?rf17
      case yf17 => intro w hSw; obtain ⟨hw1, hw4, hw3, hw5, hw7⟩ := hSw; (try dsimp only at hSw); go_simp; try rfl
      case' rf17 => try simp only [List.getElem_toArray, List.getElem_cons_succ, List.getElem_cons_zero, Act.put, List.setIfInBounds_toArray, List.set_cons_zero, List.set_cons_succ]
      refine free_take 18 (v := ?vf18) rfl (by kernel_rfl) (by kernel_rfl) (fun _ _ _ h => h) (⟨y1, y4, y3, y5, y7⟩) (Or.inl ⟨by rfl, ?yf18⟩) ?rf18
      case yf18 => intro w hSw; obtain ⟨hw1, hw4, hw3, hw5, hw7⟩ := hSw; (try dsimp only at hSw); go_simp; try rfl
      case' rf18 => try simp only [List.getElem_toArray, List.getElem_cons_succ, List.getElem_cons_zero, Act.put, List.setIfInBounds_toArray, List.set_cons_zero, List.set_cons_succ]
      refine free_take 19 (v := ?vf19) rfl (by kernel_rfl) (by kernel_rfl) (fun _ _ _ h => h) (⟨y1, y4, y3, y5, y7⟩) (Or.inl ⟨by rfl, ?yf19⟩) ?rf19
      case yf19 => intro w hSw; obtain ⟨hw1, hw4, hw3, hw5, hw7⟩ := hSw; (try dsimp only at hSw); go_simp; try rfl
      case' rf19 => try simp only [List.getElem_toArray, List.getElem_cons_succ, List.getElem_cons_zero, Act.put, List.setIfInBounds_toArray, List.set_cons_zero, List.set_cons_succ]
      refine free_take 20 (v := ?vf20) rfl (by kernel_rfl) (by kernel_rfl) (fun _ _ _ h => h) (⟨y1, y4, y3, y5, y7⟩) (Or.inl ⟨by rfl, ?yf20⟩) ?rf20
      case yf20 => intro w hSw; obtain ⟨hw1, hw4, hw3, hw5, hw7⟩ := hSw; (try dsimp only at hSw); go_simp; try rfl
      case' rf20 => try simp only [List.getElem_toArray, List.getElem_cons_succ, List.getElem_cons_zero, Act.put, List.setIfInBounds_toArray, List.set_cons_zero, List.set_cons_succ]
      refine free_take 21 (v := ?vf21) rfl (by kernel_rfl) (by kernel_rfl) (fun _ _ _ h => h) (⟨y1, y4, y3, y5, y7⟩) (Or.inl ⟨by rfl, ?yf21⟩) ?rf21
      case yf21 => intro w hSw; obtain ⟨hw1, hw4, hw3, hw5, hw7⟩ := hSw; (try dsimp only at hSw); go_simp; try rfl
      case' rf21 => try simp only [List.getElem_toArray, List.getElem_cons_succ, List.getElem_cons_zero, Act.put, List.setIfInBounds_toArray, List.set_cons_zero, List.set_cons_succ]
      refine free_take 22 (v := ?vf22) rfl (by kernel_rfl) (by kernel_rfl) (fun _ _ _ h => h) (⟨y1, y4, y3, y5, y7⟩) (Or.inl ⟨by rfl, ?yf22⟩) ?rf22
      case yf22 => intro w hSw; obtain ⟨hw1, hw4, hw3, hw5, hw7⟩ := hSw; (try dsimp only at hSw); go_simp; try rfl
      case' rf22 => try simp only [List.getElem_toArray, List.getElem_cons_succ, List.getElem_cons_zero, Act.put, List.setIfInBounds_toArray, List.set_cons_zero, List.set_cons_succ]
      refine free_take 23 (v := ?vf23) rfl (by kernel_rfl) (by kernel_rfl) (fun _ _ _ h => h) (⟨y1, y4, y3, y5, y7⟩) (Or.inl ⟨by rfl, ?yf23⟩) ?rf23
      case yf23 => intro w hSw; obtain ⟨hw1, hw4, hw3, hw5, hw7⟩ := hSw; (try dsimp only at hSw); go_simp; try rfl
      case' rf23 => try simp only [List.getElem_toArray, List.getElem_cons_succ, List.getElem_cons_zero, Act.put, List.setIfInBounds_toArray, List.set_cons_zero, List.set_cons_succ]
      refine free_take 24 (v := ?vf24) rfl (by kernel_rfl) (by kernel_rfl) (fun _ _ _ h => h) (⟨y1, y4, y3, y5, y7⟩) (Or.inl ⟨by rfl, ?yf24⟩) ?rf24
      case yf24 => intro w hSw; obtain ⟨hw1, hw4, hw3, hw5, hw7⟩ := hSw; (try dsimp only at hSw); go_simp; try rfl
      case' rf24 => try simp only [List.getElem_toArray, List.getElem_cons_succ, List.getElem_cons_zero, Act.put, List.setIfInBounds_toArray, List.set_cons_zero, List.set_cons_succ]
      refine free_take 25 (v := ?vf25) rfl (by kernel_rfl) (by kernel_rfl) (fun _ _ _ h => h) (⟨y1, y4, y3, y5, y7⟩) (Or.inl ⟨by rfl, ?yf25⟩) ?rf25
      case yf25 => intro w hSw; obtain ⟨hw1, hw4, hw3, hw5, hw7⟩ := hSw; (try dsimp only at hSw); go_simp; try rfl
      case' rf25 => try simp only [List.getElem_toArray, List.getElem_cons_succ, List.getElem_cons_zero, Act.put, List.setIfInBounds_toArray, List.set_cons_zero, List.set_cons_succ]
      refine free_take 26 (v := ?vf26) rfl (by kernel_rfl) (by kernel_rfl) (fun _ _ _ h => h) (⟨y1, y4, y3, y5, y7⟩) (Or.inl ⟨by rfl, ?yf26⟩) ?rf26
      case yf26 => intro w hSw; obtain ⟨hw1, hw4, hw3, hw5, hw7⟩ := hSw; (try dsimp only at hSw); go_simp; try rfl
      case' rf26 => try simp only [List.getElem_toArray, List.getElem_cons_succ, List.getElem_cons_zero, Act.put, List.setIfInBounds_toArray, List.set_cons_zero, List.set_cons_succ]
      refine free_take 27 (v := ?vf27) rfl (by kernel_rfl) (by kernel_rfl) (fun _ _ _ h => h) (⟨y1, y4, y3, y5, y7⟩) (Or.inl ⟨by rfl, ?yf27⟩) ?rf27
      case yf27 => intro w hSw; obtain ⟨hw1, hw4, hw3, hw5, hw7⟩ := hSw; (try dsimp only at hSw); go_simp; try rfl
      case' rf27 => try simp only [List.getElem_toArray, List.getElem_cons_succ, List.getElem_cons_zero, Act.put, List.setIfInBounds_toArray, List.set_cons_zero, List.set_cons_succ]
      refine free_take 28 (v := ?vf28) rfl (by kernel_rfl) (by kernel_rfl) (fun _ _ _ h => h) (⟨y1, y4, y3, y5, y7⟩) (Or.inl ⟨by rfl, ?yf28⟩) ?rf28
      case yf28 => intro w hSw; obtain ⟨hw1, hw4, hw3, hw5, hw7⟩ := hSw; (try dsimp only at hSw); go_simp; try rfl
      case' rf28 => try simp only [List.getElem_toArray, List.getElem_cons_succ, List.getElem_cons_zero, Act.put, List.setIfInBounds_toArray, List.set_cons_zero, List.set_cons_succ]
      refine free_take 29 (v := ?vf29) rfl (by kernel_rfl) (by kernel_rfl) (fun _ _ _ h => h) (⟨y1, y4, y3, y5, y7⟩) (Or.inl ⟨by rfl, ?yf29⟩) ?rf29
      case yf29 => intro w hSw; obtain ⟨hw1, hw4, hw3, hw5, hw7⟩ := hSw; (try dsimp only at hSw); go_simp; try rfl
      case' rf29 => try simp only [List.getElem_toArray, List.getElem_cons_succ, List.getElem_cons_zero, Act.put, List.setIfInBounds_toArray, List.set_cons_zero, List.set_cons_succ]
      refine free_take 30 (v := ?vf30) rfl (by kernel_rfl) (by kernel_rfl) (fun _ _ _ h => h) (⟨y1, y4, y3, y5, y7⟩) (Or.inl ⟨by rfl, ?yf30⟩) ?rf30
      case yf30 => intro w hSw; obtain ⟨hw1, hw4, hw3, hw5, hw7⟩ := hSw; (try dsimp only at hSw); go_simp; try rfl
      case' rf30 => try simp only [List.getElem_toArray, List.getElem_cons_succ, List.getElem_cons_zero, Act.put, List.setIfInBounds_toArray, List.set_cons_zero, List.set_cons_succ]
      refine free_take 31 (v := ?vf31) rfl (by kernel_rfl) (by kernel_rfl) (fun _ _ _ h => h) (⟨y1, y4, y3, y5, y7⟩) (Or.inl ⟨by rfl, ?yf31⟩) ?rf31
      case yf31 => intro w hSw; obtain ⟨hw1, hw4, hw3, hw5, hw7⟩ := hSw; (try dsimp only at hSw); go_simp; try rfl
      case' rf31 => try simp only [List.getElem_toArray, List.getElem_cons_succ, List.getElem_cons_zero, Act.put, List.setIfInBounds_toArray, List.set_cons_zero, List.set_cons_succ]
      refine free_take 32 (v := ?vf32) rfl (by kernel_rfl) (by kernel_rfl) (fun _ _ _ h => h) (⟨y1, y4, y3, y5, y7⟩) (Or.inl ⟨by rfl, ?yf32⟩) ?rf32
      case yf32 => intro w hSw; obtain ⟨hw1, hw4, hw3, hw5, hw7⟩ := hSw; (try dsimp only at hSw); go_simp; try rfl
      case' rf32 => try simp only [List.getElem_toArray, List.getElem_cons_succ, List.getElem_cons_zero, Act.put, List.setIfInBounds_toArray, List.set_cons_zero, List.set_cons_succ]
      refine free_take 33 (v := ?vf33) rfl (by kernel_rfl) (by kernel_rfl) (fun _ _ _ h => h) (⟨y1, y4, y3, y5, y7⟩) (Or.inl ⟨by rfl, ?yf33⟩) ?rf33
      case yf33 => intro w hSw; obtain ⟨hw1, hw4, hw3, hw5, hw7⟩ := hSw; (try dsimp only at hSw); go_simp; try rfl
      case' rf33 => try simp only [List.getElem_toArray, List.getElem_cons_succ, List.getElem_cons_zero, Act.put, List.setIfInBounds_toArray, List.set_cons_zero, List.set_cons_succ]
      refine free_take 34 (v := ?vf34) rfl (by kernel_rfl) (by kernel_rfl) (fun _ _ _ h => h) (⟨y1, y4, y3, y5, y7⟩) (Or.inl ⟨by rfl, ?yf34⟩) ?rf34
      case yf34 => intro w hSw; obtain ⟨hw1, hw4, hw3, hw5, hw7⟩ := hSw; (try dsimp only at hSw); go_simp; try rfl
      case' rf34 => try simp only [List.getElem_toArray, List.getElem_cons_succ, List.getElem_cons_zero, Act.put, List.setIfInBounds_toArray, List.set_cons_zero, List.set_cons_succ]
      refine free_take 35 (v := ?vf35) rfl (by kernel_rfl) (by kernel_rfl) (fun _ _ _ h => h) (⟨y1, y4, y3, y5, y7⟩) (Or.inl ⟨by rfl, ?yf35⟩) ?rf35
      case yf35 => intro w hSw; obtain ⟨hw1, hw4, hw3, hw5, hw7⟩ := hSw; (try dsimp only at hSw); go_simp; try rfl
      case' rf35 => try simp only [List.getElem_toArray, List.getElem_cons_succ, List.getElem_cons_zero, Act.put, List.setIfInBounds_toArray, List.set_cons_zero, List.set_cons_succ]
      refine free_take 36 (v := ?vf36) rfl (by kernel_rfl) (by kernel_rfl) (fun _ _ _ h => h) (⟨y1, y4, y3, y5, y7⟩) (Or.inl ⟨by rfl, ?yf36⟩) ?rf36
      case yf36 => intro w hSw; obtain ⟨hw1, hw4, hw3, hw5, hw7⟩ := hSw; (try dsimp only at hSw); go_simp; try rfl
      case' rf36 => try simp only [List.getElem_toArray, List.getElem_cons_succ, List.getElem_cons_zero, Act.put, List.setIfInBounds_toArray, List.set_cons_zero, List.set_cons_succ]
      have CA := Lib.hid (all_any have_ A an ac (sn : Int) V hM.al hM.again.rd (by omega))
      refine free_step 37 rfl (by kernel_rfl) (fun K hK => ?callf)
      case callf =>
        go_simp
        refine CA.out.mono ?_
        rintro e w1 ⟨rfl, hb⟩
        replace hM := hM.step hb
        replace bq := bq.step hb
        replace hB := hB.trans (hb.mono (by have := hB.size; omega))
        replace hW := hW.trans (hb.mono hW.size)
        clear y1 y4 y3 y5 y7
        have y1 := bq.cell' (i := 1) rfl
        have y4 := bq.cell' (i := 4) rfl
        have y3 := bq.cell' (i := 3) rfl
        have y5 := bq.cell' (i := 5) rfl
        have y7 := bq.cell' (i := 7) rfl
        refine hK _ _ ⟨y1, y4, y3, y5, y7⟩ ?_
        clear hK K hb CA
        rw [HAL.out]
        try simp only [List.getElem_toArray, List.getElem_cons_succ, List.getElem_cons_zero, Act.put, List.setIfInBounds_toArray, List.set_cons_zero, List.set_cons_succ]
        refine free_take 38 (v := ?vf38) rfl (by kernel_rfl) (by kernel_rfl) (fun _ _ _ h => h) (⟨y1, y4, y3, y5, y7⟩) (Or.inl ⟨by rfl, ?yf38⟩) ?rf38
        case yf38 => intro w hSw; obtain ⟨hw1, hw4, hw3, hw5, hw7⟩ := hSw; (try dsimp only at hSw); go_simp; try rfl
        case' rf38 => try simp only [List.getElem_toArray, List.getElem_cons_succ, List.getElem_cons_zero, Act.put, List.setIfInBounds_toArray, List.set_cons_zero, List.set_cons_succ]
        refine free_take 39 (v := ?vf39) rfl (by kernel_rfl) (by kernel_rfl) (fun _ _ _ h => h) (⟨y1, y4, y3, y5, y7⟩) (Or.inl ⟨by rfl, ?yf39⟩) ?rf39
        case yf39 => intro w hSw; obtain ⟨hw1, hw4, hw3, hw5, hw7⟩ := hSw; (try dsimp only at hSw); go_simp; try rfl
        case' rf39 => try simp only [List.getElem_toArray, List.getElem_cons_succ, List.getElem_cons_zero, Act.put, List.setIfInBounds_toArray, List.set_cons_zero, List.set_cons_succ]
        refine free_take 40 (v := ?vf40) rfl (by kernel_rfl) (by kernel_rfl) (fun _ _ _ h => h) (⟨y1, y4, y3, y5, y7⟩) (Or.inl ⟨by rfl, ?yf40⟩) ?rf40
        case yf40 => intro w hSw; obtain ⟨hw1, hw4, hw3, hw5, hw7⟩ := hSw; (try dsimp only at hSw); go_simp; try rfl
        case' rf40 => try simp only [List.getElem_toArray, List.getElem_cons_succ, List.getElem_cons_zero, Act.put, List.setIfInBounds_toArray, List.set_cons_zero, List.set_cons_succ]
        refine free_end (by kernel_rfl) ?_
        clear y1 y4 y3 y5 y7
        trace "D"
        have kf := bq.frozen
        have y9 := bq.cell' (i := 9) rfl
        go_upto_region 3 with fail
        clear kf y9
        replace hM := hM.turnQ bq (by decide) (by decide) (by decide) ((Turned.refl w1 (fun i => i = q)).set (p := ⟨q, 9, none⟩) (fun _ => rfl) (.int .i64 4))
        replace bq := bq.set_ 9 (.int .i64 4)
        replace hB := hB.setCell (p := ⟨q, 9, none⟩) hbq (.int .i64 4)
        generalize w1.setCell ⟨q, 9, none⟩ (.int .i64 4) = V1 at *
        trace "E"
        have y3 : V1.drew.cell? ⟨q, 3, none⟩ = some (.int .i64 (sn : Int)) := bq.cell' (i := 3) rfl
        have y5 : V1.drew.cell? ⟨q, 5, none⟩ = some (.int .i64 (sn : Int)) := bq.cell' (i := 5) rfl
        have y8 : V1.drew.cell? ⟨q, 8, none⟩ = some (.slice F fn fc) := bq.cell' (i := 8) rfl
        have y6 : V1.drew.cell? ⟨q, 6, none⟩ = some (.int .i64 sum) := bq.cell' (i := 6) rfl
        refine freeRegion (fun v => v.cell? ⟨q, 3, none⟩ = some (.int .i64 (sn : Int)) ∧ v.cell? ⟨q, 5, none⟩ = some (.int .i64 (sn : Int)) ∧ v.cell? ⟨q, 8, none⟩ = some (.slice F fn fc) ∧ v.cell? ⟨q, 6, none⟩ = some (.int .i64 sum)) (by kernel_rfl) (by kernel_rfl) ⟨y3, y5, y8, y6⟩ (fun hSS => ?_)
        clear hSS
        replace hM := hM.drewQ
        replace hB := hB.drew
        replace bq := bq.drew
        generalize V1.drew = V1d at *
        refine free_take 0 (v := ?vg0) rfl (by kernel_rfl) (by kernel_rfl) (fun _ _ _ h => h) (⟨y3, y5, y8, y6⟩) (Or.inl ⟨by rfl, ?yg0⟩) ?rg0
        case yg0 => intro w hSw; obtain ⟨hw3, hw5, hw8, hw6⟩ := hSw; (try dsimp only at hSw); go_simp; try rfl
        case' rg0 => try simp only [List.getElem_toArray, List.getElem_cons_succ, List.getElem_cons_zero, Act.put, List.setIfInBounds_toArray, List.set_cons_zero, List.set_cons_succ]
        refine free_take 1 (v := ?vg1) rfl (by kernel_rfl) (by kernel_rfl) (fun _ _ _ h => h) (⟨y3, y5, y8, y6⟩) (Or.inl ⟨by rfl, ?yg1⟩) ?rg1
        case yg1 => intro w hSw; obtain ⟨hw3, hw5, hw8, hw6⟩ := hSw; (try dsimp only at hSw); go_simp; try rfl
        case' rg1 => try simp only [List.getElem_toArray, List.getElem_cons_succ, List.getElem_cons_zero, Act.put, List.setIfInBounds_toArray, List.set_cons_zero, List.set_cons_succ]
        refine free_take 2 (v := ?vg2) rfl (by kernel_rfl) (by kernel_rfl) (fun _ _ _ h => h) (⟨y3, y5, y8, y6⟩) (Or.inl ⟨by rfl, ?yg2⟩) ?rg2
        case yg2 => intro w hSw; obtain ⟨hw3, hw5, hw8, hw6⟩ := hSw; (try dsimp only at hSw); go_simp; try rfl
        case' rg2 => try simp only [List.getElem_toArray, List.getElem_cons_succ, List.getElem_cons_zero, Act.put, List.setIfInBounds_toArray, List.set_cons_zero, List.set_cons_succ]
        refine free_take 3 (v := ?vg3) rfl (by kernel_rfl) (by kernel_rfl) (fun _ _ _ h => h) (⟨y3, y5, y8, y6⟩) (Or.inl ⟨by rfl, ?yg3⟩) ?rg3
        case yg3 => intro w hSw; obtain ⟨hw3, hw5, hw8, hw6⟩ := hSw; (try dsimp only at hSw); go_simp; try rfl
        case' rg3 => try simp only [List.getElem_toArray, List.getElem_cons_succ, List.getElem_cons_zero, Act.put, List.setIfInBounds_toArray, List.set_cons_zero, List.set_cons_succ]
        refine free_take 4 (v := ?vg4) rfl (by kernel_rfl) (by kernel_rfl) (fun _ _ _ h => h) (⟨y3, y5, y8, y6⟩) (Or.inl ⟨by rfl, ?yg4⟩) ?rg4
        case yg4 => intro w hSw; obtain ⟨hw3, hw5, hw8, hw6⟩ := hSw; (try dsimp only at hSw); go_simp; try rfl
        case' rg4 => try simp only [List.getElem_toArray, List.getElem_cons_succ, List.getElem_cons_zero, Act.put, List.setIfInBounds_toArray, List.set_cons_zero, List.set_cons_succ]
        refine free_take 5 (v := ?vg5) rfl (by kernel_rfl) (by kernel_rfl) (fun _ _ _ h => h) (⟨y3, y5, y8, y6⟩) (Or.inl ⟨by rfl, ?yg5⟩) ?rg5
        case yg5 => intro w hSw; obtain ⟨hw3, hw5, hw8, hw6⟩ := hSw; (try dsimp only at hSw); go_simp; try rfl
        case' rg5 => try simp only [List.getElem_toArray, List.getElem_cons_succ, List.getElem_cons_zero, Act.put, List.setIfInBounds_toArray, List.set_cons_zero, List.set_cons_succ]
        refine free_take 6 (v := ?vg6) rfl (by kernel_rfl) (by kernel_rfl) (fun _ _ _ h => h) (⟨y3, y5, y8, y6⟩) (Or.inl ⟨by rfl, ?yg6⟩) ?rg6
        case yg6 => intro w hSw; obtain ⟨hw3, hw5, hw8, hw6⟩ := hSw; (try dsimp only at hSw); go_simp; try rfl
        case' rg6 => try simp only [List.getElem_toArray, List.getElem_cons_succ, List.getElem_cons_zero, Act.put, List.setIfInBounds_toArray, List.set_cons_zero, List.set_cons_succ]
        refine free_take 7 (v := ?vg7) rfl (by kernel_rfl) (by kernel_rfl) (fun _ _ _ h => h) (⟨y3, y5, y8, y6⟩) (Or.inl ⟨by rfl, ?yg7⟩) ?rg7
        case yg7 => intro w hSw; obtain ⟨hw3, hw5, hw8, hw6⟩ := hSw; (try dsimp only at hSw); go_simp; try rfl
        case' rg7 => try simp only [List.getElem_toArray, List.getElem_cons_succ, List.getElem_cons_zero, Act.put, List.setIfInBounds_toArray, List.set_cons_zero, List.set_cons_succ]
        refine free_take 8 (v := ?vg8) rfl (by kernel_rfl) (by kernel_rfl) (fun _ _ _ h => h) (⟨y3, y5, y8, y6⟩) (Or.inl ⟨by rfl, ?yg8⟩) ?rg8
        case yg8 => intro w hSw; obtain ⟨hw3, hw5, hw8, hw6⟩ := hSw; (try dsimp only at hSw); go_simp; try rfl
        case' rg8 => try simp only [List.getElem_toArray, List.getElem_cons_succ, List.getElem_cons_zero, Act.put, List.setIfInBounds_toArray, List.set_cons_zero, List.set_cons_succ]
        refine free_take 9 (v := ?vg9) rfl (by kernel_rfl) (by kernel_rfl) (fun _ _ _ h => h) (⟨y3, y5, y8, y6⟩) (Or.inl ⟨by rfl, ?yg9⟩) ?rg9
        case yg9 => intro w hSw; obtain ⟨hw3, hw5, hw8, hw6⟩ := hSw; (try dsimp only at hSw); go_simp; try rfl
        case' rg9 => try simp only [List.getElem_toArray, List.getElem_cons_succ, List.getElem_cons_zero, Act.put, List.setIfInBounds_toArray, List.set_cons_zero, List.set_cons_succ]
        refine free_take 10 (v := ?vg10) rfl (by kernel_rfl) (by kernel_rfl) (fun _ _ _ h => h) (⟨y3, y5, y8, y6⟩) (Or.inl ⟨by rfl, ?yg10⟩) ?rg10
        case yg10 => intro w hSw; obtain ⟨hw3, hw5, hw8, hw6⟩ := hSw; (try dsimp only at hSw); go_simp; try rfl
        case' rg10 => try simp only [List.getElem_toArray, List.getElem_cons_succ, List.getElem_cons_zero, Act.put, List.setIfInBounds_toArray, List.set_cons_zero, List.set_cons_succ]
        refine free_take 11 (v := ?vg11) rfl (by kernel_rfl) (by kernel_rfl) (fun _ _ _ h => h) (⟨y3, y5, y8, y6⟩) (Or.inl ⟨by rfl, ?yg11⟩) ?rg11
        case yg11 => intro w hSw; obtain ⟨hw3, hw5, hw8, hw6⟩ := hSw; (try dsimp only at hSw); go_simp; try rfl
        case' rg11 => try simp only [List.getElem_toArray, List.getElem_cons_succ, List.getElem_cons_zero, Act.put, List.setIfInBounds_toArray, List.set_cons_zero, List.set_cons_succ]
        refine free_take 12 (v := ?vg12) rfl (by kernel_rfl) (by kernel_rfl) (fun _ _ _ h => h) (⟨y3, y5, y8, y6⟩) (Or.inl ⟨by rfl, ?yg12⟩) ?rg12
        case yg12 => intro w hSw; obtain ⟨hw3, hw5, hw8, hw6⟩ := hSw; (try dsimp only at hSw); go_simp; try rfl
        case' rg12 => try simp only [List.getElem_toArray, List.getElem_cons_succ, List.getElem_cons_zero, Act.put, List.setIfInBounds_toArray, List.set_cons_zero, List.set_cons_succ]
        refine free_take 13 (v := ?vg13) rfl (by kernel_rfl) (by kernel_rfl) (fun _ _ _ h => h) (⟨y3, y5, y8, y6⟩) (Or.inl ⟨by rfl, ?yg13⟩) ?rg13
        case yg13 => intro w hSw; obtain ⟨hw3, hw5, hw8, hw6⟩ := hSw; (try dsimp only at hSw); go_simp; try rfl
        case' rg13 => try simp only [List.getElem_toArray, List.getElem_cons_succ, List.getElem_cons_zero, Act.put, List.setIfInBounds_toArray, List.set_cons_zero, List.set_cons_succ]
        refine free_take 14 (v := ?vg14) rfl (by kernel_rfl) (by kernel_rfl) (fun _ _ _ h => h) (⟨y3, y5, y8, y6⟩) (Or.inl ⟨by rfl, ?yg14⟩) ?rg14
        case yg14 => intro w hSw; obtain ⟨hw3, hw5, hw8, hw6⟩ := hSw; (try dsimp only at hSw); go_simp; try rfl
        case' rg14 => try simp only [List.getElem_toArray, List.getElem_cons_succ, List.getElem_cons_zero, Act.put, List.setIfInBounds_toArray, List.set_cons_zero, List.set_cons_succ]
        refine free_take 15 (v := ?vg15) rfl (by kernel_rfl) (by kernel_rfl) (fun _ _ _ h => h) (⟨y3, y5, y8, y6⟩) (Or.inl ⟨by rfl, ?yg15⟩) ?rg15
        case yg15 => intro w hSw; obtain ⟨hw3, hw5, hw8, hw6⟩ := hSw; (try dsimp only at hSw); go_simp; try rfl
        case' rg15 => try simp only [List.getElem_toArray, List.getElem_cons_succ, List.getElem_cons_zero, Act.put, List.setIfInBounds_toArray, List.set_cons_zero, List.set_cons_succ]
        refine free_take 16 (v := ?vg16) rfl (by kernel_rfl) (by kernel_rfl) (fun _ _ _ h => h) (⟨y3, y5, y8, y6⟩) (Or.inl ⟨by rfl, ?yg16⟩) ?rg16
        case yg16 => intro w hSw; obtain ⟨hw3, hw5, hw8, hw6⟩ := hSw; (try dsimp only at hSw); go_simp; try rfl
        case' rg16 => try simp only [List.getElem_toArray, List.getElem_cons_succ, List.getElem_cons_zero, Act.put, List.setIfInBounds_toArray, List.set_cons_zero, List.set_cons_succ]
        refine free_take 17 (v := ?vg17) rfl (by kernel_rfl) (by kernel_rfl) (fun _ _ _ h => h) (⟨y3, y5, y8, y6⟩) (Or.inl ⟨by rfl, ?yg17⟩) ?rg17
        case yg17 => intro w hSw; obtain ⟨hw3, hw5, hw8, hw6⟩ := hSw; (try dsimp only at hSw); go_simp; try rfl
        case' rg17 => try simp only [List.getElem_toArray, List.getElem_cons_succ, List.getElem_cons_zero, Act.put, List.setIfInBounds_toArray, List.set_cons_zero, List.set_cons_succ]
        refine free_take 18 (v := ?vg18) rfl (by kernel_rfl) (by kernel_rfl) (fun _ _ _ h => h) (⟨y3, y5, y8, y6⟩) (Or.inl ⟨by rfl, ?yg18⟩) ?rg18
        case yg18 => intro w hSw; obtain ⟨hw3, hw5, hw8, hw6⟩ := hSw; (try dsimp only at hSw); go_simp; try rfl
        case' rg18 => try simp only [List.getElem_toArray, List.getElem_cons_succ, List.getElem_cons_zero, Act.put, List.setIfInBounds_toArray, List.set_cons_zero, List.set_cons_succ]
        refine free_take 19 (v := ?vg19) rfl (by kernel_rfl) (by kernel_rfl) (fun _ _ _ h => h) (⟨y3, y5, y8, y6⟩) (Or.inl ⟨by rfl, ?yg19⟩) ?rg19
        case yg19 => intro w hSw; obtain ⟨hw3, hw5, hw8, hw6⟩ := hSw; (try dsimp only at hSw); go_simp; try rfl
        case' rg19 => try simp only [List.getElem_toArray, List.getElem_cons_succ, List.getElem_cons_zero, Act.put, List.setIfInBounds_toArray, List.set_cons_zero, List.set_cons_succ]
        refine free_take 20 (v := ?vg20) rfl (by kernel_rfl) (by kernel_rfl) (fun _ _ _ h => h) (⟨y3, y5, y8, y6⟩) (Or.inl ⟨by rfl, ?yg20⟩) ?rg20
        case yg20 => intro w hSw; obtain ⟨hw3, hw5, hw8, hw6⟩ := hSw; (try dsimp only at hSw); go_simp; try rfl
        case' rg20 => try simp only [List.getElem_toArray, List.getElem_cons_succ, List.getElem_cons_zero, Act.put, List.setIfInBounds_toArray, List.set_cons_zero, List.set_cons_succ]
        refine free_take 21 (v := ?vg21) rfl (by kernel_rfl) (by kernel_rfl) (fun _ _ _ h => h) (⟨y3, y5, y8, y6⟩) (Or.inl ⟨by rfl, ?yg21⟩) ?rg21
        case yg21 => intro w hSw; obtain ⟨hw3, hw5, hw8, hw6⟩ := hSw; (try dsimp only at hSw); go_simp; try rfl
        case' rg21 => try simp only [List.getElem_toArray, List.getElem_cons_succ, List.getElem_cons_zero, Act.put, List.setIfInBounds_toArray, List.set_cons_zero, List.set_cons_succ]
        refine free_take 22 (v := ?vg22) rfl (by kernel_rfl) (by kernel_rfl) (fun _ _ _ h => h) (⟨y3, y5, y8, y6⟩) (Or.inl ⟨by rfl, ?yg22⟩) ?rg22
        case yg22 => intro w hSw; obtain ⟨hw3, hw5, hw8, hw6⟩ := hSw; (try dsimp only at hSw); go_simp; try rfl
        case' rg22 => try simp only [List.getElem_toArray, List.getElem_cons_succ, List.getElem_cons_zero, Act.put, List.setIfInBounds_toArray, List.set_cons_zero, List.set_cons_succ]
        refine free_take 24 (v := ?vg24) rfl (by kernel_rfl) (by kernel_rfl) (fun _ _ _ h => h) (⟨y3, y5, y8, y6⟩) (Or.inl ⟨by rfl, ?yg24⟩) ?rg24
        case yg24 => intro w hSw; obtain ⟨hw3, hw5, hw8, hw6⟩ := hSw; (try dsimp only at hSw); go_simp; try rfl
        case' rg24 => try simp only [List.getElem_toArray, List.getElem_cons_succ, List.getElem_cons_zero, Act.put, List.setIfInBounds_toArray, List.set_cons_zero, List.set_cons_succ]
        refine free_take 25 (v := ?vg25) rfl (by kernel_rfl) (by kernel_rfl) (fun _ _ _ h => h) (⟨y3, y5, y8, y6⟩) (Or.inl ⟨by rfl, ?yg25⟩) ?rg25
        case yg25 => intro w hSw; obtain ⟨hw3, hw5, hw8, hw6⟩ := hSw; (try dsimp only at hSw); go_simp; try rfl
        case' rg25 => try simp only [List.getElem_toArray, List.getElem_cons_succ, List.getElem_cons_zero, Act.put, List.setIfInBounds_toArray, List.set_cons_zero, List.set_cons_succ]
        refine free_take 26 (v := ?vg26) rfl (by kernel_rfl) (by kernel_rfl) (fun _ _ _ h => h) (⟨y3, y5, y8, y6⟩) (Or.inl ⟨by rfl, ?yg26⟩) ?rg26
        case yg26 => intro w hSw; obtain ⟨hw3, hw5, hw8, hw6⟩ := hSw; (try dsimp only at hSw); go_simp; try rfl
        case' rg26 => try simp only [List.getElem_toArray, List.getElem_cons_succ, List.getElem_cons_zero, Act.put, List.setIfInBounds_toArray, List.set_cons_zero, List.set_cons_succ]
        refine free_take 27 (v := ?vg27) rfl (by kernel_rfl) (by kernel_rfl) (fun _ _ _ h => h) (⟨y3, y5, y8, y6⟩) (Or.inl ⟨by rfl, ?yg27⟩) ?rg27
        case yg27 => intro w hSw; obtain ⟨hw3, hw5, hw8, hw6⟩ := hSw; (try dsimp only at hSw); go_simp; try rfl
        case' rg27 => try simp only [List.getElem_toArray, List.getElem_cons_succ, List.getElem_cons_zero, Act.put, List.setIfInBounds_toArray, List.set_cons_zero, List.set_cons_succ]
        refine free_take 28 (v := ?vg28) rfl (by kernel_rfl) (by kernel_rfl) (fun _ _ _ h => h) (⟨y3, y5, y8, y6⟩) (Or.inl ⟨by rfl, ?yg28⟩) ?rg28
        case yg28 => intro w hSw; obtain ⟨hw3, hw5, hw8, hw6⟩ := hSw; (try dsimp only at hSw); go_simp; try rfl
        case' rg28 => try simp only [List.getElem_toArray, List.getElem_cons_succ, List.getElem_cons_zero, Act.put, List.setIfInBounds_toArray, List.set_cons_zero, List.set_cons_succ]
        have CU := Lib.hid (tsum_own base F sn fc (file.take sn) V1d (by have h := hM.file.cut hsf; rw [Nat.mul_one] at h; have e : (bvs (pg ⟨id, true, name, (sn : Int), true, (sn : Int), sum, have_, file, 4, timer, patience, tries, limit⟩).file).take sn = bvs (file.take sn) := (by simp [bvs, pg, List.map_take]); rw [← e]; exact h) (by rw [List.length_take, HFL.out]; omega) (by omega))
        refine free_step 23 rfl (by kernel_rfl) (fun K hK => ?sumg)
        case sumg =>
          go_simp
          refine CU.out.mono ?_
          rintro e w1 ⟨rfl, hb⟩
          replace hM := hM.step hb
          replace bq := bq.step hb
          replace hB := hB.trans (hb.mono (by have := hB.size; omega))
          clear y3 y5 y8 y6
          have y3 := bq.cell' (i := 3) rfl
          have y5 := bq.cell' (i := 5) rfl
          have y8 := bq.cell' (i := 8) rfl
          have y6 := bq.cell' (i := 6) rfl
          refine hK _ _ ⟨y3, y5, y8, y6⟩ ?_
          clear hK K hb CU
          rw [HSM.out]
          try simp only [List.getElem_toArray, List.getElem_cons_succ, List.getElem_cons_zero, Act.put, List.setIfInBounds_toArray, List.set_cons_zero, List.set_cons_succ]
          by_cases hs : sm = sum
          ·
            have hsb : (sm == sum) = true := by rw [beq_iff_eq]; exact hs
            refine free_take 29 (v := ?vga29) rfl (by kernel_rfl) (by kernel_rfl) (fun _ _ _ h => h) (⟨y3, y5, y8, y6⟩) (Or.inl ⟨by rfl, ?yga29⟩) ?rga29
            case yga29 => intro w hSw; obtain ⟨hw3, hw5, hw8, hw6⟩ := hSw; (try dsimp only at hSw); go_simp; try rfl
            case' rga29 => try simp only [List.getElem_toArray, List.getElem_cons_succ, List.getElem_cons_zero, Act.put, List.setIfInBounds_toArray, List.set_cons_zero, List.set_cons_succ]
            refine free_take 30 (v := ?vga30) rfl (by kernel_rfl) (by kernel_rfl) (fun _ _ _ h => h) (⟨y3, y5, y8, y6⟩) (Or.inl ⟨by rfl, ?yga30⟩) ?rga30
            case yga30 => intro w hSw; obtain ⟨hw3, hw5, hw8, hw6⟩ := hSw; (try dsimp only at hSw); go_simp; try rfl
            case' rga30 => try simp only [List.getElem_toArray, List.getElem_cons_succ, List.getElem_cons_zero, Act.put, List.setIfInBounds_toArray, List.set_cons_zero, List.set_cons_succ]
            refine free_end (by kernel_rfl) ?_
            clear y3 y5 y8 y6
            have HE := Lib.hid (HE2.out (by show fileSum (file.take sn) = sum; rw [HSM.out, hs]))
            clear HE2 HE3 hs hsb
            trace "F"
            have kf := bq.frozen
            have y9 := bq.cell' (i := 9) rfl
            go_upto_region 5 with fail
            clear kf y9
            replace hM := hM.turnQ bq (by decide) (by decide) (by decide) ((Turned.refl w1 (fun i => i = q)).set (p := ⟨q, 9, none⟩) (fun _ => rfl) (.int .i64 3))
            replace bq := bq.set_ 9 (.int .i64 3)
            replace hB := hB.setCell (p := ⟨q, 9, none⟩) hbq (.int .i64 3)
            generalize w1.setCell ⟨q, 9, none⟩ (.int .i64 3) = w2 at *
            have zb := hB.size
            have CD := Lib.hid (done_at 0 (⟨id, true, name, (sn : Int), true, (sn : Int), sum, have_, file, 3, timer, patience, tries, limit⟩ : Tk) F fn fc A an ac O on oc l base q ns w2 bq hM hon (by omega) hbq)
            go_wp2_with fail
            refine CD.out.mono ?_
            intro e w9 h9
            have h9e : e = .returned (.tuple #[]) := by obtain ⟨O1, on1, oc1, l1, h, -⟩ := h9; exact h
            subst h9e
            go_wp2_with fail
            go_end0
            exact JudgeT.of HR.out HE.out (h9.down hB) (fun h => by cases h)
          ·
            have hsb : (sm == sum) = false := by rw [beq_eq_false_iff_ne]; exact hs
            refine free_take 29 (v := ?vgb29) rfl (by kernel_rfl) (by kernel_rfl) (fun _ _ _ h => h) (⟨y3, y5, y8, y6⟩) (Or.inl ⟨by rfl, ?ygb29⟩) ?rgb29
            case ygb29 => intro w hSw; obtain ⟨hw3, hw5, hw8, hw6⟩ := hSw; (try dsimp only at hSw); go_simp; try rfl
            case' rgb29 => try simp only [List.getElem_toArray, List.getElem_cons_succ, List.getElem_cons_zero, Act.put, List.setIfInBounds_toArray, List.set_cons_zero, List.set_cons_succ]
            refine free_take 30 (v := ?vgb30) rfl (by kernel_rfl) (by kernel_rfl) (fun _ _ _ h => h) (⟨y3, y5, y8, y6⟩) (Or.inl ⟨by rfl, ?ygb30⟩) ?rgb30
            case ygb30 => intro w hSw; obtain ⟨hw3, hw5, hw8, hw6⟩ := hSw; (try dsimp only at hSw); go_simp; try rfl
            case' rgb30 => try simp only [List.getElem_toArray, List.getElem_cons_succ, List.getElem_cons_zero, Act.put, List.setIfInBounds_toArray, List.set_cons_zero, List.set_cons_succ]
            refine free_end (by kernel_rfl) ?_
            clear y3 y5 y8 y6
            have HE := Lib.hid (HE3.out (by show ¬ fileSum (file.take sn) = sum; rw [HSM.out]; exact hs))
            clear HE2 HE3 hs hsb
            trace "G"
            have zb := hB.size
            have CD := Lib.hid (done_at 9 (⟨id, true, name, (sn : Int), true, (sn : Int), sum, have_, file, 4, timer, patience, tries, limit⟩ : Tk) F fn fc A an ac O on oc l base q ns w1 bq hM hon (by omega) hbq)
            go_wp2_with fail
            refine CD.out.mono ?_
            intro e w9 h9
            have h9e : e = .returned (.tuple #[]) := by obtain ⟨O1, on1, oc1, l1, h, -⟩ := h9; exact h
            subst h9e
            go_wp2_with fail
            go_end0
            exact JudgeT.of HR.out HE.out (h9.down hB) (fun h => by cases h)
end Go.Proofs.Ytianombjgdmbeaa
