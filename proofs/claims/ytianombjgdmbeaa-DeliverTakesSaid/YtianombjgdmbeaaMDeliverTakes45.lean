/-
  A note comes to a taker while bytes come (going). A note comes to a taker at work (deliver.Take$1).
-/
import Derived.Test.YtianombjgdmbeaaMDeliverTakes41
import Derived.Test.YtianombjgdmbeaaMDeliverTakes42
import Derived.Test.YtianombjgdmbeaaMDeliverTakes43
import Derived.Test.YtianombjgdmbeaaMDeliverTakes44
import Derived.Deep.CutBlock
import Derived.Test.YtianombjgdmbeaaMDeliverTakes40
import Derived.Test.YtianombjgdmbeaaMDeliverTakes25
import Derived.Test.YtianombjgdmbeaaMDeliverTakes33
namespace Go.Proofs.Ytianombjgdmbeaa
set_option linter.unusedSimpArgs false
set_option linter.unusedVariables false
open Go.RowKit

/-- A taker at work behind what a note brings. -/
def ComesAt (w W : World) (base q nb : Nat) (y : Tk) (ns : List Nt) (NC : Array Value) (F : Option Addr) (fn fc : Nat) (A : Option Addr) (an ac : Nat) (O : Option Addr) (on oc : Nat) (l : List NtR) : Prop :=
  Blk W q 86 (tw y A an ac F fn fc O on oc) ∧ GvMem W base (pg y) ns F fn fc A an ac O on oc l ∧ Below base w W ∧ Blk W nb 27 NC
/-- What a whole note leaves. -/
def GoneT (w w' : World) (base q : Nat) (y : Tk) (ns : List Nt) (e : Ending) : Prop :=
  ∃ F fn fc A an ac, SayT w w' base q y ns F fn fc A an ac e
theorem GoneT.of {r : Tk × List Nt} {y y' : Tk} {ms ms' : List Nt} {w w' : World} {base q : Nat} {e : Ending} (h : r = (y, ms)) (h' : r = (y', ms')) (g : GoneT w w' base q y' ms' e) : GoneT w w' base q y ms e := by
  rw [h] at h'
  injection h' with e1 e2
  rw [e1, e2]
  exact g
set_option maxHeartbeats 12800000 in
set_option maxRecDepth 100000 in
theorem going_at (x y : Tk) (ms : List Nt) (F : Option Addr) (fn fc : Nat) (A : Option Addr) (an ac : Nat) (n : Nt) (D : Option Addr) (dn dc : Nat) (G : Option Addr) (gn gc base q : Nat) (w : World) (hr : goT x n = (y, ms)) (hq : Blk w q 86 (tw x A an ac F fn fc none 0 0)) (hM : GvMem w base (pg x) [] F fn fc A an ac none 0 0 []) (hJ : TkJ x) (hst : x.stage = 0) (hn : noteOk n = true) (hk : n.kind = 1 ∨ n.kind = 2 ∨ n.kind = 3 ∨ n.kind = 6) (hdn : n.data.length = dn) (hD : Rd w D (bvs n.data)) (hDb : ∀ k, blk D = some k → k < base) (hbase : base ≤ w.heap.size) (hbq : base ≤ q) :
    Calls Try.prog 77 #[.pointer (some ⟨q, 0, none⟩), ntv n D dn dc G gn gc] w fun e w' => GoneT w w' base q y ms e := by
  have HR := Lib.hid hr
  obtain ⟨y1, hy1⟩ : ∃ y1, comesT { x with timer := 0, tries := 0 } n = y1 := ⟨_, rfl⟩
  obtain ⟨z, m1, hz⟩ : ∃ z m1, judgeT y1 = (z, m1) := ⟨_, _, rfl⟩
  have HY := Lib.hid hy1
  have HZ := Lib.hid hz
  have HJI := Lib.hid (judge_is hz (by rw [← hy1, comes_stage]; exact hst))
  have HY0 := Lib.hid (show y1.stage = 0 by rw [← hy1, comes_stage]; exact hst)
  have HJ1 : TkJ y1 := by
    rw [← hy1]
    exact comes_J ⟨hJ.size, hJ.last, hJ.rows, hJ.long, hJ.small⟩ hn
  have HN1 := Lib.hid (note_2 hn)
  have HDL := Lib.hid hdn
  have HDB := Lib.hid hDb
  have HRD := Lib.hid hD
  have HG1 := Lib.hid (goT_no hy1 hz)
  have HG2 := Lib.hid (goT_say hy1 hz)
  have HG3 := Lib.hid (fun h => goT_ask (x := x) hy1 (h : judgeT y1 = (y1, [])))
  have HTJ : Hid (TkJ { x with timer := 0, tries := 0 }) := Lib.hid ⟨hJ.size, hJ.last, hJ.rows, hJ.long, hJ.small⟩
  clear hr hy1 hz hn hdn hD hDb hJ
  have hB : Below base w w := Below.refl _ _
  have bq := hq
  clear hq
  obtain ⟨id, known, name, size, ended, last, sum, have_, file, stage, timer, patience, tries, limit⟩ := x
  obtain ⟨kind, nid, nname, nsize, nsum, nat_, data, gaps, nof, ncode⟩ := n
  unfold tw at bq
  unfold ntv
  dsimp only at bq hst hk HDL HRD HN1 HG1 HG2 HG3 HY HTJ ⊢
  subst hst
  have kn := Blk.new w 27 #[.int .i64 kind, .int .i64 nid, .string nname, .int .i64 nsize, .int .i64 nsum, .int .i64 nat_, .slice D dn dc, .slice G gn gc, .int .i64 nof, .int .i64 ncode]
  have zq := bq.lt
  replace bq := bq.alloc (.cells #[.int .i64 kind, .int .i64 nid, .string nname, .int .i64 nsize, .int .i64 nsum, .int .i64 nat_, .slice D dn dc, .slice G gn gc, .int .i64 nof, .int .i64 ncode] 27)
  replace hM := hM.step ((Below.refl w.heap.size w).alloc (Nat.le_refl _) (.cells #[.int .i64 kind, .int .i64 nid, .string nname, .int .i64 nsize, .int .i64 nsum, .int .i64 nat_, .slice D dn dc, .slice G gn gc, .int .i64 nof, .int .i64 ncode] 27))
  replace hB := hB.alloc hbase (.cells #[.int .i64 kind, .int .i64 nid, .string nname, .int .i64 nsize, .int .i64 nsum, .int .i64 nat_, .slice D dn dc, .slice G gn gc, .int .i64 nof, .int .i64 ncode] 27)
  go_enter Try.func77, Try.ntmps77
  go_upto_region 1 with fail
  obtain ⟨nb, hnb⟩ : ∃ nb, w.heap.size = nb := ⟨_, rfl⟩
  rw [hnb] at kn hbase zq ⊢
  have HNB := Lib.hid hnb
  clear hnb
  generalize w.alloc (.cells #[.int .i64 kind, .int .i64 nid, .string nname, .int .i64 nsize, .int .i64 nsum, .int .i64 nat_, .slice D dn dc, .slice G gn gc, .int .i64 nof, .int .i64 ncode] 27) = V at *
  have kf := bq.frozen
  have u10 := bq.cell' (i := 10) rfl
  have u12 := bq.cell' (i := 12) rfl
  trace "A0"
  go_upto_region 2 with fail
  trace "A"
  clear kf u10 u12
  replace kn := (kn.far (p := ⟨q, 10, none⟩) (show nb ≠ q by omega) (.int .i64 0)).far (p := ⟨q, 12, none⟩) (show nb ≠ q by omega) (.int .i64 0)
  replace hM := (hM.turnQ bq (by decide) (by decide) (by decide) ((Turned.refl V (fun i => i = q)).set (p := ⟨q, 10, none⟩) (fun _ => rfl) (.int .i64 0)))
  replace bq := bq.set_ 10 (.int .i64 0)
  replace hM := (hM.turnQ bq (by decide) (by decide) (by decide) ((Turned.refl (V.setCell ⟨q, 10, none⟩ (.int .i64 0)) (fun i => i = q)).set (p := ⟨q, 12, none⟩) (fun _ => rfl) (.int .i64 0)))
  replace bq := bq.set_ 12 (.int .i64 0)
  replace hB := (hB.setCell (p := ⟨q, 10, none⟩) hbq (.int .i64 0)).setCell (p := ⟨q, 12, none⟩) hbq (.int .i64 0)
  generalize (V.setCell ⟨q, 10, none⟩ (.int .i64 0)).setCell ⟨q, 12, none⟩ (.int .i64 0) = W at *
  have n0 := kn.cell' (i := 0) rfl
  go_upto_block 0 with fail
  trace "B"
  go_cut [46] (fun _ wx => ∃ (W9 : World) (F : Option Addr) (fn fc : Nat) (A : Option Addr) (an ac : Nat) (O : Option Addr) (on oc : Nat) (l : List NtR), W9 = wx ∧ ComesAt w W9 base q nb y1 (if kind = 3 then [(⟨6, id, ⟨#[]⟩, 0, 0, 0, [], [], 3, 0⟩ : Nt)] else []) #[.int .i64 kind, .int .i64 nid, .string nname, .int .i64 nsize, .int .i64 nsum, .int .i64 nat_, .slice D dn dc, .slice G gn gc, .int .i64 nof, .int .i64 ncode] F fn fc A an ac O on oc l)
  case first =>
    rcases hk with rfl | rfl | rfl | rfl
    ·
      cases known
      ·
        have HE := Lib.hid (HY.out.symm.trans (comes_1b (x := (⟨id, false, name, size, ended, last, sum, have_, file, 0, 0, patience, 0, limit⟩ : Tk)) (n := (⟨1, nid, nname, nsize, nsum, nat_, data, gaps, nof, ncode⟩ : Nt)) rfl rfl))
        try dsimp only at HE
        have y1c := bq.cell' (i := 1) rfl
        go_upto_region 5 with fail
        trace "C"
        clear y1c n0
        have u0 : W.drew.cell? ⟨nb, 2, none⟩ = some (.string nname) := kn.cell' (i := 2) rfl
        have u1 : W.drew.cell? ⟨nb, 3, none⟩ = some (.int .i64 nsize) := kn.cell' (i := 3) rfl
        refine freeRegion (fun v => v.cell? ⟨nb, 2, none⟩ = some (.string nname) ∧ v.cell? ⟨nb, 3, none⟩ = some (.int .i64 nsize)) (by kernel_rfl) (by kernel_rfl) ⟨u0, u1⟩ (fun hSS => ?_)
        clear hSS
        replace hM := hM.drewQ
        replace hB := hB.drew
        replace bq := bq.drew
        replace kn := kn.drew
        generalize W.drew = W0 at *
        refine free_take 0 (v := ?va0) rfl (by kernel_rfl) (by kernel_rfl) (fun _ _ _ h => h) (⟨u0, u1⟩) (Or.inl ⟨by rfl, ?ya0⟩) ?ra0
        case ya0 => intro w hSw; obtain ⟨hu0, hu1⟩ := hSw; (try dsimp only at hSw); go_simp; try rfl
        case' ra0 => try simp only [List.getElem_toArray, List.getElem_cons_succ, List.getElem_cons_zero, Act.put, List.setIfInBounds_toArray, List.set_cons_zero, List.set_cons_succ]
        refine free_take 1 (v := ?va1) rfl (by kernel_rfl) (by kernel_rfl) (fun _ _ _ h => h) (⟨u0, u1⟩) (Or.inl ⟨by rfl, ?ya1⟩) ?ra1
        case ya1 => intro w hSw; obtain ⟨hu0, hu1⟩ := hSw; (try dsimp only at hSw); go_simp; try rfl
        case' ra1 => try simp only [List.getElem_toArray, List.getElem_cons_succ, List.getElem_cons_zero, Act.put, List.setIfInBounds_toArray, List.set_cons_zero, List.set_cons_succ]
        refine free_take 2 (v := ?va2) rfl (by kernel_rfl) (by kernel_rfl) (fun _ _ _ h => h) (⟨u0, u1⟩) (Or.inl ⟨by rfl, ?ya2⟩) ?ra2
        case ya2 => intro w hSw; obtain ⟨hu0, hu1⟩ := hSw; (try dsimp only at hSw); go_simp; try rfl
        case' ra2 => try simp only [List.getElem_toArray, List.getElem_cons_succ, List.getElem_cons_zero, Act.put, List.setIfInBounds_toArray, List.set_cons_zero, List.set_cons_succ]
        refine free_take 3 (v := ?va3) rfl (by kernel_rfl) (by kernel_rfl) (fun _ _ _ h => h) (⟨u0, u1⟩) (Or.inl ⟨by rfl, ?ya3⟩) ?ra3
        case ya3 => intro w hSw; obtain ⟨hu0, hu1⟩ := hSw; (try dsimp only at hSw); go_simp; try rfl
        case' ra3 => try simp only [List.getElem_toArray, List.getElem_cons_succ, List.getElem_cons_zero, Act.put, List.setIfInBounds_toArray, List.set_cons_zero, List.set_cons_succ]
        refine free_take 4 (v := ?va4) rfl (by kernel_rfl) (by kernel_rfl) (fun _ _ _ h => h) (⟨u0, u1⟩) (Or.inl ⟨by rfl, ?ya4⟩) ?ra4
        case ya4 => intro w hSw; obtain ⟨hu0, hu1⟩ := hSw; (try dsimp only at hSw); go_simp; try rfl
        case' ra4 => try simp only [List.getElem_toArray, List.getElem_cons_succ, List.getElem_cons_zero, Act.put, List.setIfInBounds_toArray, List.set_cons_zero, List.set_cons_succ]
        refine free_take 5 (v := ?va5) rfl (by kernel_rfl) (by kernel_rfl) (fun _ _ _ h => h) (⟨u0, u1⟩) (Or.inl ⟨by rfl, ?ya5⟩) ?ra5
        case ya5 => intro w hSw; obtain ⟨hu0, hu1⟩ := hSw; (try dsimp only at hSw); go_simp; try rfl
        case' ra5 => try simp only [List.getElem_toArray, List.getElem_cons_succ, List.getElem_cons_zero, Act.put, List.setIfInBounds_toArray, List.set_cons_zero, List.set_cons_succ]
        refine free_take 6 (v := ?va6) rfl (by kernel_rfl) (by kernel_rfl) (fun _ _ _ h => h) (⟨u0, u1⟩) (Or.inl ⟨by rfl, ?ya6⟩) ?ra6
        case ya6 => intro w hSw; obtain ⟨hu0, hu1⟩ := hSw; (try dsimp only at hSw); go_simp; try rfl
        case' ra6 => try simp only [List.getElem_toArray, List.getElem_cons_succ, List.getElem_cons_zero, Act.put, List.setIfInBounds_toArray, List.set_cons_zero, List.set_cons_succ]
        refine free_take 7 (v := ?va7) rfl (by kernel_rfl) (by kernel_rfl) (fun _ _ _ h => h) (⟨u0, u1⟩) (Or.inl ⟨by rfl, ?ya7⟩) ?ra7
        case ya7 => intro w hSw; obtain ⟨hu0, hu1⟩ := hSw; (try dsimp only at hSw); go_simp; try rfl
        case' ra7 => try simp only [List.getElem_toArray, List.getElem_cons_succ, List.getElem_cons_zero, Act.put, List.setIfInBounds_toArray, List.set_cons_zero, List.set_cons_succ]
        refine free_take 8 (v := ?va8) rfl (by kernel_rfl) (by kernel_rfl) (fun _ _ _ h => h) (⟨u0, u1⟩) (Or.inl ⟨by rfl, ?ya8⟩) ?ra8
        case ya8 => intro w hSw; obtain ⟨hu0, hu1⟩ := hSw; (try dsimp only at hSw); go_simp; try rfl
        case' ra8 => try simp only [List.getElem_toArray, List.getElem_cons_succ, List.getElem_cons_zero, Act.put, List.setIfInBounds_toArray, List.set_cons_zero, List.set_cons_succ]
        refine free_take 9 (v := ?va9) rfl (by kernel_rfl) (by kernel_rfl) (fun _ _ _ h => h) (⟨u0, u1⟩) (Or.inl ⟨by rfl, ?ya9⟩) ?ra9
        case ya9 => intro w hSw; obtain ⟨hu0, hu1⟩ := hSw; (try dsimp only at hSw); go_simp; try rfl
        case' ra9 => try simp only [List.getElem_toArray, List.getElem_cons_succ, List.getElem_cons_zero, Act.put, List.setIfInBounds_toArray, List.set_cons_zero, List.set_cons_succ]
        have kf := bq.frozen
        have yc := bq.cell' (i := 1) rfl
        refine free_step 10 rfl (by kernel_rfl) (fun K hK => ?sa0)
        case sa0 =>
          go_simp
          replace kn := kn.far (p := ⟨q, 1, none⟩) (show nb ≠ q by omega) (.bool true)
          refine hK _ _ ⟨kn.cell' (i := 2) rfl, kn.cell' (i := 3) rfl⟩ ?_
          clear hK K kf yc u0 u1
          try simp only [List.getElem_toArray, List.getElem_cons_succ, List.getElem_cons_zero, Act.put, List.setIfInBounds_toArray, List.set_cons_zero, List.set_cons_succ]
          replace hM := hM.turnQ bq (by decide) (by decide) (by decide) ((Turned.refl W0 (fun i => i = q)).set (p := ⟨q, 1, none⟩) (fun _ => rfl) (.bool true))
          replace bq := bq.set_ 1 (.bool true)
          replace hB := hB.setCell (p := ⟨q, 1, none⟩) hbq (.bool true)
          generalize W0.setCell ⟨q, 1, none⟩ (.bool true) = W1 at *
          have u0 := kn.cell' (i := 2) rfl
          have u1 := kn.cell' (i := 3) rfl
          refine free_take 11 (v := ?va011) rfl (by kernel_rfl) (by kernel_rfl) (fun _ _ _ h => h) (⟨u0, u1⟩) (Or.inl ⟨by rfl, ?ya011⟩) ?ra011
          case ya011 => intro w hSw; obtain ⟨hu0, hu1⟩ := hSw; (try dsimp only at hSw); go_simp; try rfl
          case' ra011 => try simp only [List.getElem_toArray, List.getElem_cons_succ, List.getElem_cons_zero, Act.put, List.setIfInBounds_toArray, List.set_cons_zero, List.set_cons_succ]
          refine free_take 12 (v := ?va012) rfl (by kernel_rfl) (by kernel_rfl) (fun _ _ _ h => h) (⟨u0, u1⟩) (Or.inl ⟨by rfl, ?ya012⟩) ?ra012
          case ya012 => intro w hSw; obtain ⟨hu0, hu1⟩ := hSw; (try dsimp only at hSw); go_simp; try rfl
          case' ra012 => try simp only [List.getElem_toArray, List.getElem_cons_succ, List.getElem_cons_zero, Act.put, List.setIfInBounds_toArray, List.set_cons_zero, List.set_cons_succ]
          refine free_take 13 (v := ?va013) rfl (by kernel_rfl) (by kernel_rfl) (fun _ _ _ h => h) (⟨u0, u1⟩) (Or.inl ⟨by rfl, ?ya013⟩) ?ra013
          case ya013 => intro w hSw; obtain ⟨hu0, hu1⟩ := hSw; (try dsimp only at hSw); go_simp; try rfl
          case' ra013 => try simp only [List.getElem_toArray, List.getElem_cons_succ, List.getElem_cons_zero, Act.put, List.setIfInBounds_toArray, List.set_cons_zero, List.set_cons_succ]
          have kf := bq.frozen
          have yc := bq.cell' (i := 2) rfl
          refine free_step 14 rfl (by kernel_rfl) (fun K hK => ?sa1)
          case sa1 =>
            go_simp
            replace kn := kn.far (p := ⟨q, 2, none⟩) (show nb ≠ q by omega) (.string nname)
            refine hK _ _ ⟨kn.cell' (i := 2) rfl, kn.cell' (i := 3) rfl⟩ ?_
            clear hK K kf yc u0 u1
            try simp only [List.getElem_toArray, List.getElem_cons_succ, List.getElem_cons_zero, Act.put, List.setIfInBounds_toArray, List.set_cons_zero, List.set_cons_succ]
            replace hM := hM.turnQ bq (by decide) (by decide) (by decide) ((Turned.refl W1 (fun i => i = q)).set (p := ⟨q, 2, none⟩) (fun _ => rfl) (.string nname))
            replace bq := bq.set_ 2 (.string nname)
            replace hB := hB.setCell (p := ⟨q, 2, none⟩) hbq (.string nname)
            generalize W1.setCell ⟨q, 2, none⟩ (.string nname) = W2 at *
            have u0 := kn.cell' (i := 2) rfl
            have u1 := kn.cell' (i := 3) rfl
            refine free_take 15 (v := ?va115) rfl (by kernel_rfl) (by kernel_rfl) (fun _ _ _ h => h) (⟨u0, u1⟩) (Or.inl ⟨by rfl, ?ya115⟩) ?ra115
            case ya115 => intro w hSw; obtain ⟨hu0, hu1⟩ := hSw; (try dsimp only at hSw); go_simp; try rfl
            case' ra115 => try simp only [List.getElem_toArray, List.getElem_cons_succ, List.getElem_cons_zero, Act.put, List.setIfInBounds_toArray, List.set_cons_zero, List.set_cons_succ]
            refine free_take 16 (v := ?va116) rfl (by kernel_rfl) (by kernel_rfl) (fun _ _ _ h => h) (⟨u0, u1⟩) (Or.inl ⟨by rfl, ?ya116⟩) ?ra116
            case ya116 => intro w hSw; obtain ⟨hu0, hu1⟩ := hSw; (try dsimp only at hSw); go_simp; try rfl
            case' ra116 => try simp only [List.getElem_toArray, List.getElem_cons_succ, List.getElem_cons_zero, Act.put, List.setIfInBounds_toArray, List.set_cons_zero, List.set_cons_succ]
            refine free_take 17 (v := ?va117) rfl (by kernel_rfl) (by kernel_rfl) (fun _ _ _ h => h) (⟨u0, u1⟩) (Or.inl ⟨by rfl, ?ya117⟩) ?ra117
            case ya117 => intro w hSw; obtain ⟨hu0, hu1⟩ := hSw; (try dsimp only at hSw); go_simp; try rfl
            case' ra117 => try simp only [List.getElem_toArray, List.getElem_cons_succ, List.getElem_cons_zero, Act.put, List.setIfInBounds_toArray, List.set_cons_zero, List.set_cons_succ]
            have kf := bq.frozen
            have yc := bq.cell' (i := 3) rfl
            refine free_step 18 rfl (by kernel_rfl) (fun K hK => ?sa2)
            case sa2 =>
              go_simp
              replace kn := kn.far (p := ⟨q, 3, none⟩) (show nb ≠ q by omega) (.int .i64 nsize)
              refine hK _ _ ⟨kn.cell' (i := 2) rfl, kn.cell' (i := 3) rfl⟩ ?_
              clear hK K kf yc u0 u1
              try simp only [List.getElem_toArray, List.getElem_cons_succ, List.getElem_cons_zero, Act.put, List.setIfInBounds_toArray, List.set_cons_zero, List.set_cons_succ]
              replace hM := hM.turnQ bq (by decide) (by decide) (by decide) ((Turned.refl W2 (fun i => i = q)).set (p := ⟨q, 3, none⟩) (fun _ => rfl) (.int .i64 nsize))
              replace bq := bq.set_ 3 (.int .i64 nsize)
              replace hB := hB.setCell (p := ⟨q, 3, none⟩) hbq (.int .i64 nsize)
              generalize W2.setCell ⟨q, 3, none⟩ (.int .i64 nsize) = W3 at *
              have u0 := kn.cell' (i := 2) rfl
              have u1 := kn.cell' (i := 3) rfl
              refine free_end (by kernel_rfl) ?_
              go_wp2_with fail
              go_meet
              exact ⟨_, F, fn, fc, A, an, ac, none, 0, 0, [], rfl, (by rw [HE.out]; exact bq), (by rw [HE.out, if_neg (by omega)]; exact hM), hB, kn⟩
      ·
        have HE := Lib.hid (HY.out.symm.trans (comes_1a (x := (⟨id, true, name, size, ended, last, sum, have_, file, 0, 0, patience, 0, limit⟩ : Tk)) (n := (⟨1, nid, nname, nsize, nsum, nat_, data, gaps, nof, ncode⟩ : Nt)) rfl rfl))
        try dsimp only at HE
        have y1c := bq.cell' (i := 1) rfl
        go_wp2_with fail
        go_meet
        exact ⟨_, F, fn, fc, A, an, ac, none, 0, 0, [], rfl, (by rw [HE.out]; exact bq), (by rw [HE.out, if_neg (by omega)]; exact hM), hB, kn⟩
    ·
      have HE := Lib.hid (HY.out.symm.trans (comes_2 (x := (⟨id, known, name, size, ended, last, sum, have_, file, 0, 0, patience, 0, limit⟩ : Tk)) (n := (⟨2, nid, nname, nsize, nsum, nat_, data, gaps, nof, ncode⟩ : Nt)) rfl))
      try dsimp only at HE
      obtain ⟨k1, k2, k3, k4⟩ := HN1.out rfl
      rw [HDL.out] at k1 k2 k4
      obtain ⟨a, rfl⟩ : ∃ a : Nat, nat_ = (a : Int) := ⟨nat_.toNat, by omega⟩
      have zb := hB.size
      have CL := Lib.hid (play_at (⟨id, known, name, size, ended, last, sum, have_, file, 0, 0, patience, 0, limit⟩ : Tk) F fn fc A an ac none 0 0 [] D dn dc a base q (⟨2, nid, nname, nsize, nsum, (a : Int), data, gaps, nof, ncode⟩ : Nt) [] W bq hM (HRD.out.belowN hB HDB.out) HDL.out rfl k1 (by omega) HTJ.out.rows HTJ.out.long HTJ.out.small (by have := HNB.out; omega) hbq)
      have zkn := kn.lt
      have n5 := kn.cell' (i := 5) rfl
      have n6 := kn.cell' (i := 6) rfl
      trace "D"
      go_wp2_with fail
      refine CL.out.mono ?_
      rintro e w9 ⟨F1, fn1, fc1, A1, an1, ac1, rfl, bq9, hM9, hB9, hK9⟩
      replace kn : Blk w9 nb 27 _ := (hK9 nb kn.lt (by omega)).trans kn
      replace hB := hB.trans hB9
      clear CL n5 n6 hM bq
      go_wp2_with fail
      go_meet
      exact ⟨_, F1, fn1, fc1, A1, an1, ac1, none, 0, 0, [], rfl, (by rw [HE.out]; exact bq9), (by rw [HE.out, if_neg (by omega)]; exact hM9), hB, kn⟩
    ·
      have CS := Lib.hid (seen0_at (⟨id, known, name, size, ended, last, sum, have_, file, 0, 0, patience, 0, limit⟩ : Tk) F fn fc A an ac base q W bq hM (by have := hB.size; have := HNB.out; omega) hbq)
      have n0c := n0
      trace "E"
      go_upto_region 10 with (go_at_call 78; refine CS.out.mono ?_; rintro e w9 ⟨⟨O1, on1, oc1, l1, rfl, bq9, hM9, hB9⟩, hT9⟩)
      replace kn : Blk w9 nb 27 _ := kn.turned hT9 (show ¬ nb = q by omega)
      replace hB := hB.trans hB9
      clear CS n0c n0 hM bq hT9 hB9
      have bq := bq9
      have hM := hM9
      clear bq9 hM9
      unfold tw at bq
      dsimp only at bq
      have y4c := bq.cell' (i := 4) rfl
      cases ended
      ·
        have HE := Lib.hid (HY.out.symm.trans (comes_3b (x := (⟨id, known, name, size, false, last, sum, have_, file, 0, 0, patience, 0, limit⟩ : Tk)) (n := (⟨3, nid, nname, nsize, nsum, nat_, data, gaps, nof, ncode⟩ : Nt)) rfl rfl))
        try dsimp only at HE
        go_upto_region 11 with fail
        trace "F"
        clear y4c
        have u0 : w9.drew.cell? ⟨nb, 3, none⟩ = some (.int .i64 nsize) := kn.cell' (i := 3) rfl
        have u1 : w9.drew.cell? ⟨nb, 4, none⟩ = some (.int .i64 nsum) := kn.cell' (i := 4) rfl
        refine freeRegion (fun v => v.cell? ⟨nb, 3, none⟩ = some (.int .i64 nsize) ∧ v.cell? ⟨nb, 4, none⟩ = some (.int .i64 nsum)) (by kernel_rfl) (by kernel_rfl) ⟨u0, u1⟩ (fun hSS => ?_)
        clear hSS
        replace hM := hM.drewQ
        replace hB := hB.drew
        replace bq := bq.drew
        replace kn := kn.drew
        generalize w9.drew = w90 at *
        refine free_take 0 (v := ?vb0) rfl (by kernel_rfl) (by kernel_rfl) (fun _ _ _ h => h) (⟨u0, u1⟩) (Or.inl ⟨by rfl, ?yb0⟩) ?rb0
        case yb0 => intro w hSw; obtain ⟨hu0, hu1⟩ := hSw; (try dsimp only at hSw); go_simp; try rfl
        case' rb0 => try simp only [List.getElem_toArray, List.getElem_cons_succ, List.getElem_cons_zero, Act.put, List.setIfInBounds_toArray, List.set_cons_zero, List.set_cons_succ]
        refine free_take 1 (v := ?vb1) rfl (by kernel_rfl) (by kernel_rfl) (fun _ _ _ h => h) (⟨u0, u1⟩) (Or.inl ⟨by rfl, ?yb1⟩) ?rb1
        case yb1 => intro w hSw; obtain ⟨hu0, hu1⟩ := hSw; (try dsimp only at hSw); go_simp; try rfl
        case' rb1 => try simp only [List.getElem_toArray, List.getElem_cons_succ, List.getElem_cons_zero, Act.put, List.setIfInBounds_toArray, List.set_cons_zero, List.set_cons_succ]
        refine free_take 2 (v := ?vb2) rfl (by kernel_rfl) (by kernel_rfl) (fun _ _ _ h => h) (⟨u0, u1⟩) (Or.inl ⟨by rfl, ?yb2⟩) ?rb2
        case yb2 => intro w hSw; obtain ⟨hu0, hu1⟩ := hSw; (try dsimp only at hSw); go_simp; try rfl
        case' rb2 => try simp only [List.getElem_toArray, List.getElem_cons_succ, List.getElem_cons_zero, Act.put, List.setIfInBounds_toArray, List.set_cons_zero, List.set_cons_succ]
        refine free_take 3 (v := ?vb3) rfl (by kernel_rfl) (by kernel_rfl) (fun _ _ _ h => h) (⟨u0, u1⟩) (Or.inl ⟨by rfl, ?yb3⟩) ?rb3
        case yb3 => intro w hSw; obtain ⟨hu0, hu1⟩ := hSw; (try dsimp only at hSw); go_simp; try rfl
        case' rb3 => try simp only [List.getElem_toArray, List.getElem_cons_succ, List.getElem_cons_zero, Act.put, List.setIfInBounds_toArray, List.set_cons_zero, List.set_cons_succ]
        refine free_take 4 (v := ?vb4) rfl (by kernel_rfl) (by kernel_rfl) (fun _ _ _ h => h) (⟨u0, u1⟩) (Or.inl ⟨by rfl, ?yb4⟩) ?rb4
        case yb4 => intro w hSw; obtain ⟨hu0, hu1⟩ := hSw; (try dsimp only at hSw); go_simp; try rfl
        case' rb4 => try simp only [List.getElem_toArray, List.getElem_cons_succ, List.getElem_cons_zero, Act.put, List.setIfInBounds_toArray, List.set_cons_zero, List.set_cons_succ]
        refine free_take 5 (v := ?vb5) rfl (by kernel_rfl) (by kernel_rfl) (fun _ _ _ h => h) (⟨u0, u1⟩) (Or.inl ⟨by rfl, ?yb5⟩) ?rb5
        case yb5 => intro w hSw; obtain ⟨hu0, hu1⟩ := hSw; (try dsimp only at hSw); go_simp; try rfl
        case' rb5 => try simp only [List.getElem_toArray, List.getElem_cons_succ, List.getElem_cons_zero, Act.put, List.setIfInBounds_toArray, List.set_cons_zero, List.set_cons_succ]
        refine free_take 6 (v := ?vb6) rfl (by kernel_rfl) (by kernel_rfl) (fun _ _ _ h => h) (⟨u0, u1⟩) (Or.inl ⟨by rfl, ?yb6⟩) ?rb6
        case yb6 => intro w hSw; obtain ⟨hu0, hu1⟩ := hSw; (try dsimp only at hSw); go_simp; try rfl
        case' rb6 => try simp only [List.getElem_toArray, List.getElem_cons_succ, List.getElem_cons_zero, Act.put, List.setIfInBounds_toArray, List.set_cons_zero, List.set_cons_succ]
        refine free_take 7 (v := ?vb7) rfl (by kernel_rfl) (by kernel_rfl) (fun _ _ _ h => h) (⟨u0, u1⟩) (Or.inl ⟨by rfl, ?yb7⟩) ?rb7
        case yb7 => intro w hSw; obtain ⟨hu0, hu1⟩ := hSw; (try dsimp only at hSw); go_simp; try rfl
        case' rb7 => try simp only [List.getElem_toArray, List.getElem_cons_succ, List.getElem_cons_zero, Act.put, List.setIfInBounds_toArray, List.set_cons_zero, List.set_cons_succ]
        refine free_take 8 (v := ?vb8) rfl (by kernel_rfl) (by kernel_rfl) (fun _ _ _ h => h) (⟨u0, u1⟩) (Or.inl ⟨by rfl, ?yb8⟩) ?rb8
        case yb8 => intro w hSw; obtain ⟨hu0, hu1⟩ := hSw; (try dsimp only at hSw); go_simp; try rfl
        case' rb8 => try simp only [List.getElem_toArray, List.getElem_cons_succ, List.getElem_cons_zero, Act.put, List.setIfInBounds_toArray, List.set_cons_zero, List.set_cons_succ]
        refine free_take 9 (v := ?vb9) rfl (by kernel_rfl) (by kernel_rfl) (fun _ _ _ h => h) (⟨u0, u1⟩) (Or.inl ⟨by rfl, ?yb9⟩) ?rb9
        case yb9 => intro w hSw; obtain ⟨hu0, hu1⟩ := hSw; (try dsimp only at hSw); go_simp; try rfl
        case' rb9 => try simp only [List.getElem_toArray, List.getElem_cons_succ, List.getElem_cons_zero, Act.put, List.setIfInBounds_toArray, List.set_cons_zero, List.set_cons_succ]
        have kf := bq.frozen
        have yc := bq.cell' (i := 4) rfl
        refine free_step 10 rfl (by kernel_rfl) (fun K hK => ?sb0)
        case sb0 =>
          go_simp
          replace kn := kn.far (p := ⟨q, 4, none⟩) (show nb ≠ q by omega) (.bool true)
          refine hK _ _ ⟨kn.cell' (i := 3) rfl, kn.cell' (i := 4) rfl⟩ ?_
          clear hK K kf yc u0 u1
          try simp only [List.getElem_toArray, List.getElem_cons_succ, List.getElem_cons_zero, Act.put, List.setIfInBounds_toArray, List.set_cons_zero, List.set_cons_succ]
          replace hM := hM.turnQ bq (by decide) (by decide) (by decide) ((Turned.refl w90 (fun i => i = q)).set (p := ⟨q, 4, none⟩) (fun _ => rfl) (.bool true))
          replace bq := bq.set_ 4 (.bool true)
          replace hB := hB.setCell (p := ⟨q, 4, none⟩) hbq (.bool true)
          generalize w90.setCell ⟨q, 4, none⟩ (.bool true) = w91 at *
          have u0 := kn.cell' (i := 3) rfl
          have u1 := kn.cell' (i := 4) rfl
          refine free_take 11 (v := ?vb011) rfl (by kernel_rfl) (by kernel_rfl) (fun _ _ _ h => h) (⟨u0, u1⟩) (Or.inl ⟨by rfl, ?yb011⟩) ?rb011
          case yb011 => intro w hSw; obtain ⟨hu0, hu1⟩ := hSw; (try dsimp only at hSw); go_simp; try rfl
          case' rb011 => try simp only [List.getElem_toArray, List.getElem_cons_succ, List.getElem_cons_zero, Act.put, List.setIfInBounds_toArray, List.set_cons_zero, List.set_cons_succ]
          refine free_take 12 (v := ?vb012) rfl (by kernel_rfl) (by kernel_rfl) (fun _ _ _ h => h) (⟨u0, u1⟩) (Or.inl ⟨by rfl, ?yb012⟩) ?rb012
          case yb012 => intro w hSw; obtain ⟨hu0, hu1⟩ := hSw; (try dsimp only at hSw); go_simp; try rfl
          case' rb012 => try simp only [List.getElem_toArray, List.getElem_cons_succ, List.getElem_cons_zero, Act.put, List.setIfInBounds_toArray, List.set_cons_zero, List.set_cons_succ]
          refine free_take 13 (v := ?vb013) rfl (by kernel_rfl) (by kernel_rfl) (fun _ _ _ h => h) (⟨u0, u1⟩) (Or.inl ⟨by rfl, ?yb013⟩) ?rb013
          case yb013 => intro w hSw; obtain ⟨hu0, hu1⟩ := hSw; (try dsimp only at hSw); go_simp; try rfl
          case' rb013 => try simp only [List.getElem_toArray, List.getElem_cons_succ, List.getElem_cons_zero, Act.put, List.setIfInBounds_toArray, List.set_cons_zero, List.set_cons_succ]
          have kf := bq.frozen
          have yc := bq.cell' (i := 5) rfl
          refine free_step 14 rfl (by kernel_rfl) (fun K hK => ?sb1)
          case sb1 =>
            go_simp
            replace kn := kn.far (p := ⟨q, 5, none⟩) (show nb ≠ q by omega) (.int .i64 nsize)
            refine hK _ _ ⟨kn.cell' (i := 3) rfl, kn.cell' (i := 4) rfl⟩ ?_
            clear hK K kf yc u0 u1
            try simp only [List.getElem_toArray, List.getElem_cons_succ, List.getElem_cons_zero, Act.put, List.setIfInBounds_toArray, List.set_cons_zero, List.set_cons_succ]
            replace hM := hM.turnQ bq (by decide) (by decide) (by decide) ((Turned.refl w91 (fun i => i = q)).set (p := ⟨q, 5, none⟩) (fun _ => rfl) (.int .i64 nsize))
            replace bq := bq.set_ 5 (.int .i64 nsize)
            replace hB := hB.setCell (p := ⟨q, 5, none⟩) hbq (.int .i64 nsize)
            generalize w91.setCell ⟨q, 5, none⟩ (.int .i64 nsize) = w92 at *
            have u0 := kn.cell' (i := 3) rfl
            have u1 := kn.cell' (i := 4) rfl
            refine free_take 15 (v := ?vb115) rfl (by kernel_rfl) (by kernel_rfl) (fun _ _ _ h => h) (⟨u0, u1⟩) (Or.inl ⟨by rfl, ?yb115⟩) ?rb115
            case yb115 => intro w hSw; obtain ⟨hu0, hu1⟩ := hSw; (try dsimp only at hSw); go_simp; try rfl
            case' rb115 => try simp only [List.getElem_toArray, List.getElem_cons_succ, List.getElem_cons_zero, Act.put, List.setIfInBounds_toArray, List.set_cons_zero, List.set_cons_succ]
            refine free_take 16 (v := ?vb116) rfl (by kernel_rfl) (by kernel_rfl) (fun _ _ _ h => h) (⟨u0, u1⟩) (Or.inl ⟨by rfl, ?yb116⟩) ?rb116
            case yb116 => intro w hSw; obtain ⟨hu0, hu1⟩ := hSw; (try dsimp only at hSw); go_simp; try rfl
            case' rb116 => try simp only [List.getElem_toArray, List.getElem_cons_succ, List.getElem_cons_zero, Act.put, List.setIfInBounds_toArray, List.set_cons_zero, List.set_cons_succ]
            refine free_take 17 (v := ?vb117) rfl (by kernel_rfl) (by kernel_rfl) (fun _ _ _ h => h) (⟨u0, u1⟩) (Or.inl ⟨by rfl, ?yb117⟩) ?rb117
            case yb117 => intro w hSw; obtain ⟨hu0, hu1⟩ := hSw; (try dsimp only at hSw); go_simp; try rfl
            case' rb117 => try simp only [List.getElem_toArray, List.getElem_cons_succ, List.getElem_cons_zero, Act.put, List.setIfInBounds_toArray, List.set_cons_zero, List.set_cons_succ]
            have kf := bq.frozen
            have yc := bq.cell' (i := 6) rfl
            refine free_step 18 rfl (by kernel_rfl) (fun K hK => ?sb2)
            case sb2 =>
              go_simp
              replace kn := kn.far (p := ⟨q, 6, none⟩) (show nb ≠ q by omega) (.int .i64 nsum)
              refine hK _ _ ⟨kn.cell' (i := 3) rfl, kn.cell' (i := 4) rfl⟩ ?_
              clear hK K kf yc u0 u1
              try simp only [List.getElem_toArray, List.getElem_cons_succ, List.getElem_cons_zero, Act.put, List.setIfInBounds_toArray, List.set_cons_zero, List.set_cons_succ]
              replace hM := hM.turnQ bq (by decide) (by decide) (by decide) ((Turned.refl w92 (fun i => i = q)).set (p := ⟨q, 6, none⟩) (fun _ => rfl) (.int .i64 nsum))
              replace bq := bq.set_ 6 (.int .i64 nsum)
              replace hB := hB.setCell (p := ⟨q, 6, none⟩) hbq (.int .i64 nsum)
              generalize w92.setCell ⟨q, 6, none⟩ (.int .i64 nsum) = w93 at *
              have u0 := kn.cell' (i := 3) rfl
              have u1 := kn.cell' (i := 4) rfl
              refine free_end (by kernel_rfl) ?_
              go_wp2_with fail
              go_meet
              exact ⟨_, F, fn, fc, A, an, ac, O1, on1, oc1, l1, rfl, (by rw [HE.out]; exact bq), (by rw [HE.out]; (first | rw [if_pos rfl] | rw [if_pos trivial]); exact hM), hB, kn⟩
      ·
        have HE := Lib.hid (HY.out.symm.trans (comes_3a (x := (⟨id, known, name, size, true, last, sum, have_, file, 0, 0, patience, 0, limit⟩ : Tk)) (n := (⟨3, nid, nname, nsize, nsum, nat_, data, gaps, nof, ncode⟩ : Nt)) rfl rfl))
        try dsimp only at HE
        go_wp2_with fail
        go_meet
        exact ⟨_, F, fn, fc, A, an, ac, O1, on1, oc1, l1, rfl, (by rw [HE.out]; exact bq), (by rw [HE.out]; (first | rw [if_pos rfl] | rw [if_pos trivial]); exact hM), hB, kn⟩
    ·
      have HE := Lib.hid (HY.out.symm.trans (comes_6 (x := (⟨id, known, name, size, ended, last, sum, have_, file, 0, 0, patience, 0, limit⟩ : Tk)) (n := (⟨6, nid, nname, nsize, nsum, nat_, data, gaps, nof, ncode⟩ : Nt)) rfl))
      try dsimp only at HE
      go_wp2_with fail
      go_meet
      exact ⟨_, F, fn, fc, A, an, ac, none, 0, 0, [], rfl, (by rw [HE.out]; exact bq), (by rw [HE.out, if_neg (by omega)]; exact hM), hB, kn⟩
  case rest =>
    trace "R"
    clear bq hM hB kn n0 HRD HDB HDL HN1 HTJ HY
    obtain ⟨W9, F, fn, fc, A, an, ac, O, on, oc, l, hW9, bq, hM, hB, kn⟩ := hcut
    subst hW9
    obtain ⟨n1, hn1⟩ : ∃ n1, (if kind = 3 then [(⟨6, id, ⟨#[]⟩, 0, 0, 0, [], [], 3, 0⟩ : Nt)] else []) = n1 := ⟨_, rfl⟩
    rw [hn1] at hM
    have hnl : n1.length ≤ 1 := by rw [← hn1]; split <;> simp
    have HN := Lib.hid hn1
    clear hn1
    have han : an ≤ 100000 := by have h := hM.al; have h2 := HJ1.few; rw [← h]; exact h2
    have zb := hB.size
    have CJ := Lib.hid (judge_at y1 z m1 F fn fc A an ac O on oc l base q n1 W9 HZ.out bq hM HJ1.size HJ1.rows HJ1.long han (by omega) (by have := HNB.out; omega) hbq)
    go_upto_region 13 with (go_at_call 106; refine CJ.out.mono ?_; rintro e w9 ⟨⟨O3, on3, oc3, l3, rfl, bq3, hM3, hB3⟩, hK⟩)
    trace "S"
    replace hB := hB.trans hB3
    clear bq hM CJ hB3
    rcases HJI.out with ⟨hm, hz⟩ | ⟨hm, hz, -⟩
    rotate_left
    ·
      have HS : Hid (GoneT w w9 base q z (n1 ++ m1) (.returned (.tuple #[]))) := Lib.hid ⟨F, fn, fc, A, an, ac, O3, on3, oc3, l3, rfl, bq3, hM3, hB⟩
      have HGO : Hid (goT (⟨id, known, name, size, ended, last, sum, have_, file, 0, timer, patience, tries, limit⟩ : Tk) (⟨kind, nid, nname, nsize, nsum, nat_, data, gaps, nof, ncode⟩ : Nt) = (z, n1 ++ m1)) := Lib.hid (by
        by_cases h3 : kind = 3
        · rw [← HN.out, if_pos h3]; exact HG2.out h3 hm
        · rw [← HN.out, if_neg h3]; exact HG1.out h3)
      have x9 : w9.cell? ⟨q, 9, none⟩ = some (.int .i64 z.stage) := bq3.cell' (i := 9) rfl
      clear HG1 HG2 HG3 HJI hm hK HJ1 HZ HY0 kn hM3 bq3 hB
      rcases hz with hz | hz
      ·
        rw [hz] at x9
        clear hz
        go_wp2_with fail
        go_end0
        exact GoneT.of HR.out HGO.out HS.out
      ·
        rw [hz] at x9
        clear hz
        go_wp2_with fail
        go_end0
        exact GoneT.of HR.out HGO.out HS.out
    ·
      subst hz
      subst hm
      replace kn := kn.step (hK rfl)
      have n0 := kn.cell' (i := 0) rfl
      have x9 : w9.cell? ⟨q, 9, none⟩ = some (.int .i64 z.stage) := bq3.cell' (i := 9) rfl
      rw [HY0.out] at x9
      rw [List.append_nil] at hM3
      clear hK
      by_cases h3 : kind = 3
      ·
        subst h3
        have HGO := Lib.hid (HG3.out HZ.out rfl)
        rw [if_pos rfl] at HN
        have zb2 := hB.size
        have CA := Lib.hid (ask_at z F fn fc A an ac O3 on3 oc3 l3 base q n1 w9 bq3 hM3 HJ1.last HJ1.rows han (by omega) (by have := HNB.out; omega) hbq)
        clear HG1 HG2 HG3 HJI HZ HY0 HJ1
        trace "T"
        go_wp2_with (go_at_call 58; refine CA.out.mono ?_; rintro e w10 ⟨O4, on4, oc4, l4, rfl, bq4, hM4, hB4⟩)
        go_end0
        exact GoneT.of HR.out HGO.out ⟨F, fn, fc, A, an, ac, O4, on4, oc4, l4, rfl, bq4, (by have h := hM4; rw [← HN.out] at h; exact h), hB.trans hB4⟩
      ·
        have hkb : (kind == 3) = false := by rw [beq_eq_false_iff_ne]; exact h3
        have HGO := Lib.hid (HG1.out h3)
        rw [if_neg h3] at HN
        clear HG1 HG2 HG3 HJI HZ HY0 HJ1 h3
        go_wp2_with fail
        go_end0
        exact GoneT.of HR.out HGO.out ⟨F, fn, fc, A, an, ac, O3, on3, oc3, l3, rfl, bq3, (by have h := hM3; rw [← HN.out] at h; exact h), hB⟩
end Go.Proofs.Ytianombjgdmbeaa
namespace Go.Proofs.Ytianombjgdmbeaa
set_option linter.unusedSimpArgs false
set_option linter.unusedVariables false
open Go.RowKit

theorem take_8 {x : Tk} {n : Nt} (h : tkOk x = true) (h1 : noteOk n = false) : takeR x n = (x, [], 8) := by unfold takeR; rw [if_neg (by rw [h]; decide), if_pos h1]
theorem take_10 {x : Tk} {n : Nt} (h : tkOk x = true) (h1 : noteOk n = true) (h2 : n.id ≠ x.id) : takeR x n = (x, [], 10) := by unfold takeR; rw [if_neg (by rw [h]; decide), if_neg (by rw [h1]; decide), if_pos h2]
theorem take_6 {x : Tk} {n : Nt} (h : tkOk x = true) (h1 : noteOk n = true) (h2 : n.id = x.id) (h3 : n.kind = 4 ∨ n.kind = 5) : takeR x n = (x, [], 6) := by unfold takeR; rw [if_neg (by rw [h]; decide), if_neg (by rw [h1]; decide), if_neg (by simpa using h2), if_pos h3]
theorem take_t {x y : Tk} {n : Nt} {ns : List Nt} (h : tkOk x = true) (h1 : noteOk n = true) (h2 : n.id = x.id) (h3 : ¬ (n.kind = 4 ∨ n.kind = 5)) (h4 : takeT x n = (y, ns)) : takeR x n = (y, ns, 0) := by unfold takeR; rw [if_neg (by rw [h]; decide), if_neg (by rw [h1]; decide), if_neg (by simpa using h2), if_neg h3, h4]
theorem taket_go {x : Tk} {n : Nt} (h : x.stage = 0) : takeT x n = goT x n := by unfold takeT; rw [if_neg (by omega), if_neg (by omega)]
theorem taket_4e {x : Tk} {n : Nt} (h : x.stage = 4) (h2 : n.kind = 3) : takeT x n = (x, [seenN x] ++ [doneN x 9]) := by unfold takeT; rw [if_pos h, if_pos h2]; rfl
theorem taket_4n {x : Tk} {n : Nt} (h : x.stage = 4) (h2 : ¬ n.kind = 3) : takeT x n = (x, []) := by unfold takeT; rw [if_pos h, if_neg h2]
theorem taket_3e {x : Tk} {n : Nt} (h : x.stage = 3) (h2 : n.kind = 3) : takeT x n = (x, [seenN x] ++ [doneN x 0]) := by unfold takeT; rw [if_neg (by omega), if_pos h, if_pos h2]; rfl
theorem taket_3s {x : Tk} {n : Nt} (h : x.stage = 3) (h2 : ¬ n.kind = 3) (h3 : n.kind = 6 ∧ n.of_ = 5) : takeT x n = ({ x with timer := 0, tries := x.limit }, []) := by unfold takeT; rw [if_neg (by omega), if_pos h, if_neg h2, if_pos h3]
theorem taket_3n {x : Tk} {n : Nt} (h : x.stage = 3) (h2 : ¬ n.kind = 3) (h3 : ¬ (n.kind = 6 ∧ n.of_ = 5)) : takeT x n = (x, []) := by unfold takeT; rw [if_neg (by omega), if_pos h, if_neg h2, if_neg h3]
theorem DoT.ofR {r : Tk × List Nt × Int} {y y' : Tk} {ns ns' : List Nt} {k k' : Int} {w w' : World} {base q : Nat} {e : Ending} (h : r = (y, ns, k)) (h' : r = (y', ns', k')) (g : DoT w w' base q y' ns' k' e) : DoT w w' base q y ns k e := by
  rw [h] at h'
  injection h' with e1 h'
  injection h' with e2 e3
  rw [e1, e2, e3]
  exact g
theorem tk_stage3 {x : Tk} (h : tkOk x = true) : x.stage = 0 ∨ x.stage = 3 ∨ x.stage = 4 := by
  have h1 := (tk_parts h).2.2.1
  unfold stageB at h1
  exact of_decide_eq_true h1
set_option maxHeartbeats 12800000 in
set_option maxRecDepth 100000 in
theorem doTake_any (x : Tk) (F : Option Addr) (fn fc : Nat) (A : Option Addr) (an ac : Nat) (n : Nt) (D : Option Addr) (dn dc : Nat) (G : Option Addr) (gn gc : Nat) (y : Tk) (ns : List Nt) (k : Int) (nb q base : Nat) (w : World) (hR : takeR x n = (y, ns, k)) (hok : tkOk x = true) (hq : Blk w q 86 (tw x A an ac F fn fc none 0 0)) (hn : Blk w nb 27 #[.int .i64 n.kind, .int .i64 n.id, .string n.name, .int .i64 n.size, .int .i64 n.sum, .int .i64 n.at_, .slice D dn dc, .slice G gn gc, .int .i64 n.of_, .int .i64 n.code])
    (hf : x.file.length = fn) (ha : x.have_.length = an) (hOF : Own w base 5 1 F fn fc (bvs x.file)) (hOA : Own w base 66 2 A an ac (gps x.have_)) (hd : n.data.length = dn) (hg : n.gaps.length = gn) (hD : Rd w D (bvs n.data)) (hDb : ∀ i, blk D = some i → i < base) (hG : Rd w G (gps n.gaps)) (hqb : base ≤ q) (hnb : nb < base) (hbase : base ≤ w.heap.size) :
    Calls Try.prog 76 #[.pointer (some ⟨q, 0, none⟩), .pointer (some ⟨nb, 0, none⟩)] w fun e w' => DoT w w' base q y ns k e := by
  have HR := Lib.hid hR
  have CM := Lib.hid (fun (V : World) (h : Below w.heap.size w V) => may_any n D dn dc G gn gc V hd hg (hG.below h))
  obtain ⟨r2, hr2⟩ : ∃ r2, noteOk n = r2 := ⟨_, rfl⟩
  rw [hr2] at CM
  have H1 := Lib.hid hok
  have H2 := Lib.hid hr2
  have HS3 := Lib.hid (tk_stage3 hok)
  have HJ := Lib.hid (TkI.of hok).j
  have HRG := Lib.hid (fun (h : noteOk n = true) => note_rng h)
  have HOF := Lib.hid (fun (h : noteOk n = true) => note_of h)
  have HGO := Lib.hid (fun (V : World) (z : Tk) (ms : List Nt) (h : goT x n = (z, ms)) (hq : Blk V q 86 (tw x A an ac F fn fc none 0 0)) (hM : GvMem V base (pg x) [] F fn fc A an ac none 0 0 []) (hs : x.stage = 0) (h2 : noteOk n = true) (hk : n.kind = 1 ∨ n.kind = 2 ∨ n.kind = 3 ∨ n.kind = 6) (hB : Below base w V) (hz : base ≤ V.heap.size) => going_at x z ms F fn fc A an ac n D dn dc G gn gc base q V h hq hM (TkI.of hok).j hs h2 hk hd (hD.belowN hB hDb) hDb hz hqb)
  have hM : GvMem w base (pg x) [] F fn fc A an ac none 0 0 [] := GvMem.none hf ha hOF hOA
  have hB : Below base w w := Below.refl _ _
  have bq := hq
  have bn := hn
  clear hR hok hf ha hd hg hD hG hr2 hDb hOF hOA hq hn
  obtain ⟨id, known, name, size, ended, last, sum, have_, file, stage, timer, patience, tries, limit⟩ := x
  obtain ⟨nk, nid, nn, ns_, nsum, nat_, nd, ng, nof, ncode⟩ := n
  unfold tw at bq
  unfold ntv at CM
  dsimp only at CM bq bn HR H1 H2 HS3 HRG HOF HGO ⊢
  have n0 := bn.cell' (i := 0) rfl
  go_enter Try.func76, Try.ntmps76
  go_upto_region 2 with fail
  trace "A"
  cases r2
  ·
    go_upto_region 3 with (first
    | (refine wpList_load_row rfl 27 (.tmp 1) rfl nb rfl 27 #[.int .i64 nk, .int .i64 nid, .string nn, .int .i64 ns_, .int .i64 nsum, .int .i64 nat_, .slice D dn dc, .slice G gn gc, .int .i64 nof, .int .i64 ncode] (0, 0) _ bn Try.underlying27 rfl notesz ?_)
    | (go_at_call 40; refine (CM.out _ (Below.refl _ _)).mono ?_; rintro e w1 ⟨rfl, hb⟩))
    replace hM := hM.step hb
    replace bq := bq.step hb
    replace bn := bn.step hb
    replace hB := hB.trans (hb.mono (by have := hB.size; omega))
    clear hb CM n0
    go_wp2_with fail
    go_ret
    exact DoT.ofR HR.out (take_8 H1.out H2.out) ⟨F, fn, fc, A, an, ac, none, 0, 0, [], rfl, bq, hM, hB⟩
  ·
    go_upto_region 4 with (first
    | (refine wpList_load_row rfl 27 (.tmp 1) rfl nb rfl 27 #[.int .i64 nk, .int .i64 nid, .string nn, .int .i64 ns_, .int .i64 nsum, .int .i64 nat_, .slice D dn dc, .slice G gn gc, .int .i64 nof, .int .i64 ncode] (0, 0) _ bn Try.underlying27 rfl notesz ?_)
    | (go_at_call 40; refine (CM.out _ (Below.refl _ _)).mono ?_; rintro e w1 ⟨rfl, hb⟩))
    trace "B"
    replace hM := hM.step hb
    replace bq := bq.step hb
    replace bn := bn.step hb
    replace hB := hB.trans (hb.mono (by have := hB.size; omega))
    clear hb CM n0
    by_cases hid : nid = id
    rotate_left
    ·
      have ib : (nid != id) = true := by rw [bne_iff_ne]; exact hid
      have HI := Lib.hid hid
      clear hid
      have u0 : w1.drew.cell? ⟨nb, 1, none⟩ = some (.int .i64 nid) := bn.cell' (i := 1) rfl
      have u1 : w1.drew.cell? ⟨q, 0, none⟩ = some (.int .i64 id) := bq.cell' (i := 0) rfl
      refine freeRegion (fun v => v.cell? ⟨nb, 1, none⟩ = some (.int .i64 nid) ∧ v.cell? ⟨q, 0, none⟩ = some (.int .i64 id)) (by kernel_rfl) (by kernel_rfl) ⟨u0, u1⟩ (fun hSS => ?_)
      clear hSS
      replace hM := hM.drewQ
      replace hB := hB.drew
      replace bq := bq.drew
      replace bn := bn.drew
      generalize w1.drew = V1 at *
      refine free_take 0 (v := ?va0) rfl (by kernel_rfl) (by kernel_rfl) (fun _ _ _ h => h) (⟨u0, u1⟩) (Or.inl ⟨by rfl, ?ya0⟩) ?ra0
      case ya0 => intro w hSw; obtain ⟨hu0, hu1⟩ := hSw; (try dsimp only at hSw); go_simp; try rfl
      case' ra0 => try simp only [List.getElem_toArray, List.getElem_cons_succ, List.getElem_cons_zero, Act.put, List.setIfInBounds_toArray, List.set_cons_zero, List.set_cons_succ]
      refine free_take 1 (v := ?va1) rfl (by kernel_rfl) (by kernel_rfl) (fun _ _ _ h => h) (⟨u0, u1⟩) (Or.inl ⟨by rfl, ?ya1⟩) ?ra1
      case ya1 => intro w hSw; obtain ⟨hu0, hu1⟩ := hSw; (try dsimp only at hSw); go_simp; try rfl
      case' ra1 => try simp only [List.getElem_toArray, List.getElem_cons_succ, List.getElem_cons_zero, Act.put, List.setIfInBounds_toArray, List.set_cons_zero, List.set_cons_succ]
      refine free_take 2 (v := ?va2) rfl (by kernel_rfl) (by kernel_rfl) (fun _ _ _ h => h) (⟨u0, u1⟩) (Or.inl ⟨by rfl, ?ya2⟩) ?ra2
      case ya2 => intro w hSw; obtain ⟨hu0, hu1⟩ := hSw; (try dsimp only at hSw); go_simp; try rfl
      case' ra2 => try simp only [List.getElem_toArray, List.getElem_cons_succ, List.getElem_cons_zero, Act.put, List.setIfInBounds_toArray, List.set_cons_zero, List.set_cons_succ]
      refine free_take 3 (v := ?va3) rfl (by kernel_rfl) (by kernel_rfl) (fun _ _ _ h => h) (⟨u0, u1⟩) (Or.inl ⟨by rfl, ?ya3⟩) ?ra3
      case ya3 => intro w hSw; obtain ⟨hu0, hu1⟩ := hSw; (try dsimp only at hSw); go_simp; try rfl
      case' ra3 => try simp only [List.getElem_toArray, List.getElem_cons_succ, List.getElem_cons_zero, Act.put, List.setIfInBounds_toArray, List.set_cons_zero, List.set_cons_succ]
      refine free_take 4 (v := ?va4) rfl (by kernel_rfl) (by kernel_rfl) (fun _ _ _ h => h) (⟨u0, u1⟩) (Or.inl ⟨by rfl, ?ya4⟩) ?ra4
      case ya4 => intro w hSw; obtain ⟨hu0, hu1⟩ := hSw; (try dsimp only at hSw); go_simp; try rfl
      case' ra4 => try simp only [List.getElem_toArray, List.getElem_cons_succ, List.getElem_cons_zero, Act.put, List.setIfInBounds_toArray, List.set_cons_zero, List.set_cons_succ]
      refine free_take 5 (v := ?va5) rfl (by kernel_rfl) (by kernel_rfl) (fun _ _ _ h => h) (⟨u0, u1⟩) (Or.inl ⟨by rfl, ?ya5⟩) ?ra5
      case ya5 => intro w hSw; obtain ⟨hu0, hu1⟩ := hSw; (try dsimp only at hSw); go_simp; try rfl
      case' ra5 => try simp only [List.getElem_toArray, List.getElem_cons_succ, List.getElem_cons_zero, Act.put, List.setIfInBounds_toArray, List.set_cons_zero, List.set_cons_succ]
      refine free_take 6 (v := ?va6) rfl (by kernel_rfl) (by kernel_rfl) (fun _ _ _ h => h) (⟨u0, u1⟩) (Or.inl ⟨by rfl, ?ya6⟩) ?ra6
      case ya6 => intro w hSw; obtain ⟨hu0, hu1⟩ := hSw; (try dsimp only at hSw); go_simp; try rfl
      case' ra6 => try simp only [List.getElem_toArray, List.getElem_cons_succ, List.getElem_cons_zero, Act.put, List.setIfInBounds_toArray, List.set_cons_zero, List.set_cons_succ]
      refine free_take 7 (v := ?va7) rfl (by kernel_rfl) (by kernel_rfl) (fun _ _ _ h => h) (⟨u0, u1⟩) (Or.inl ⟨by rfl, ?ya7⟩) ?ra7
      case ya7 => intro w hSw; obtain ⟨hu0, hu1⟩ := hSw; (try dsimp only at hSw); go_simp; try rfl
      case' ra7 => try simp only [List.getElem_toArray, List.getElem_cons_succ, List.getElem_cons_zero, Act.put, List.setIfInBounds_toArray, List.set_cons_zero, List.set_cons_succ]
      refine free_take 8 (v := ?va8) rfl (by kernel_rfl) (by kernel_rfl) (fun _ _ _ h => h) (⟨u0, u1⟩) (Or.inl ⟨by rfl, ?ya8⟩) ?ra8
      case ya8 => intro w hSw; obtain ⟨hu0, hu1⟩ := hSw; (try dsimp only at hSw); go_simp; try rfl
      case' ra8 => try simp only [List.getElem_toArray, List.getElem_cons_succ, List.getElem_cons_zero, Act.put, List.setIfInBounds_toArray, List.set_cons_zero, List.set_cons_succ]
      refine free_end (by kernel_rfl) ?_
      clear u0 u1
      go_wp2_with fail
      go_ret
      exact DoT.ofR HR.out (take_10 H1.out H2.out HI.out) ⟨F, fn, fc, A, an, ac, none, 0, 0, [], rfl, bq, hM, hB⟩
    ·
      have ib : (nid != id) = false := by rw [bne_eq_false_iff_eq]; exact hid
      have HI := Lib.hid hid
      clear hid
      have u0 : w1.drew.cell? ⟨nb, 1, none⟩ = some (.int .i64 nid) := bn.cell' (i := 1) rfl
      have u1 : w1.drew.cell? ⟨q, 0, none⟩ = some (.int .i64 id) := bq.cell' (i := 0) rfl
      refine freeRegion (fun v => v.cell? ⟨nb, 1, none⟩ = some (.int .i64 nid) ∧ v.cell? ⟨q, 0, none⟩ = some (.int .i64 id)) (by kernel_rfl) (by kernel_rfl) ⟨u0, u1⟩ (fun hSS => ?_)
      clear hSS
      replace hM := hM.drewQ
      replace hB := hB.drew
      replace bq := bq.drew
      replace bn := bn.drew
      generalize w1.drew = V1 at *
      refine free_take 0 (v := ?vb0) rfl (by kernel_rfl) (by kernel_rfl) (fun _ _ _ h => h) (⟨u0, u1⟩) (Or.inl ⟨by rfl, ?yb0⟩) ?rb0
      case yb0 => intro w hSw; obtain ⟨hu0, hu1⟩ := hSw; (try dsimp only at hSw); go_simp; try rfl
      case' rb0 => try simp only [List.getElem_toArray, List.getElem_cons_succ, List.getElem_cons_zero, Act.put, List.setIfInBounds_toArray, List.set_cons_zero, List.set_cons_succ]
      refine free_take 1 (v := ?vb1) rfl (by kernel_rfl) (by kernel_rfl) (fun _ _ _ h => h) (⟨u0, u1⟩) (Or.inl ⟨by rfl, ?yb1⟩) ?rb1
      case yb1 => intro w hSw; obtain ⟨hu0, hu1⟩ := hSw; (try dsimp only at hSw); go_simp; try rfl
      case' rb1 => try simp only [List.getElem_toArray, List.getElem_cons_succ, List.getElem_cons_zero, Act.put, List.setIfInBounds_toArray, List.set_cons_zero, List.set_cons_succ]
      refine free_take 2 (v := ?vb2) rfl (by kernel_rfl) (by kernel_rfl) (fun _ _ _ h => h) (⟨u0, u1⟩) (Or.inl ⟨by rfl, ?yb2⟩) ?rb2
      case yb2 => intro w hSw; obtain ⟨hu0, hu1⟩ := hSw; (try dsimp only at hSw); go_simp; try rfl
      case' rb2 => try simp only [List.getElem_toArray, List.getElem_cons_succ, List.getElem_cons_zero, Act.put, List.setIfInBounds_toArray, List.set_cons_zero, List.set_cons_succ]
      refine free_take 3 (v := ?vb3) rfl (by kernel_rfl) (by kernel_rfl) (fun _ _ _ h => h) (⟨u0, u1⟩) (Or.inl ⟨by rfl, ?yb3⟩) ?rb3
      case yb3 => intro w hSw; obtain ⟨hu0, hu1⟩ := hSw; (try dsimp only at hSw); go_simp; try rfl
      case' rb3 => try simp only [List.getElem_toArray, List.getElem_cons_succ, List.getElem_cons_zero, Act.put, List.setIfInBounds_toArray, List.set_cons_zero, List.set_cons_succ]
      refine free_take 4 (v := ?vb4) rfl (by kernel_rfl) (by kernel_rfl) (fun _ _ _ h => h) (⟨u0, u1⟩) (Or.inl ⟨by rfl, ?yb4⟩) ?rb4
      case yb4 => intro w hSw; obtain ⟨hu0, hu1⟩ := hSw; (try dsimp only at hSw); go_simp; try rfl
      case' rb4 => try simp only [List.getElem_toArray, List.getElem_cons_succ, List.getElem_cons_zero, Act.put, List.setIfInBounds_toArray, List.set_cons_zero, List.set_cons_succ]
      refine free_take 5 (v := ?vb5) rfl (by kernel_rfl) (by kernel_rfl) (fun _ _ _ h => h) (⟨u0, u1⟩) (Or.inl ⟨by rfl, ?yb5⟩) ?rb5
      case yb5 => intro w hSw; obtain ⟨hu0, hu1⟩ := hSw; (try dsimp only at hSw); go_simp; try rfl
      case' rb5 => try simp only [List.getElem_toArray, List.getElem_cons_succ, List.getElem_cons_zero, Act.put, List.setIfInBounds_toArray, List.set_cons_zero, List.set_cons_succ]
      refine free_take 6 (v := ?vb6) rfl (by kernel_rfl) (by kernel_rfl) (fun _ _ _ h => h) (⟨u0, u1⟩) (Or.inl ⟨by rfl, ?yb6⟩) ?rb6
      case yb6 => intro w hSw; obtain ⟨hu0, hu1⟩ := hSw; (try dsimp only at hSw); go_simp; try rfl
      case' rb6 => try simp only [List.getElem_toArray, List.getElem_cons_succ, List.getElem_cons_zero, Act.put, List.setIfInBounds_toArray, List.set_cons_zero, List.set_cons_succ]
      refine free_take 7 (v := ?vb7) rfl (by kernel_rfl) (by kernel_rfl) (fun _ _ _ h => h) (⟨u0, u1⟩) (Or.inl ⟨by rfl, ?yb7⟩) ?rb7
      case yb7 => intro w hSw; obtain ⟨hu0, hu1⟩ := hSw; (try dsimp only at hSw); go_simp; try rfl
      case' rb7 => try simp only [List.getElem_toArray, List.getElem_cons_succ, List.getElem_cons_zero, Act.put, List.setIfInBounds_toArray, List.set_cons_zero, List.set_cons_succ]
      refine free_take 8 (v := ?vb8) rfl (by kernel_rfl) (by kernel_rfl) (fun _ _ _ h => h) (⟨u0, u1⟩) (Or.inl ⟨by rfl, ?yb8⟩) ?rb8
      case yb8 => intro w hSw; obtain ⟨hu0, hu1⟩ := hSw; (try dsimp only at hSw); go_simp; try rfl
      case' rb8 => try simp only [List.getElem_toArray, List.getElem_cons_succ, List.getElem_cons_zero, Act.put, List.setIfInBounds_toArray, List.set_cons_zero, List.set_cons_succ]
      refine free_end (by kernel_rfl) ?_
      clear u0 u1
      go_upto_region 6 with fail
      trace "C"
      have n0 := bn.cell' (i := 0) rfl
      have hrg := HRG.out H2.out
      by_cases h45 : nk = 4 ∨ nk = 5
      ·
        have HE := Lib.hid (take_6 (x := ⟨id, known, name, size, ended, last, sum, have_, file, stage, timer, patience, tries, limit⟩) (n := ⟨nk, nid, nn, ns_, nsum, nat_, nd, ng, nof, ncode⟩) H1.out H2.out HI.out h45)
        rcases h45 with rfl | rfl
        all_goals
          go_wp2_with fail
          go_ret
          exact DoT.ofR HR.out HE.out ⟨F, fn, fc, A, an, ac, none, 0, 0, [], rfl, bq, hM, hB⟩
      have HK := Lib.hid h45
      have hk : nk = 1 ∨ nk = 2 ∨ nk = 3 ∨ nk = 6 := by omega
      clear hrg h45
      have x9 := bq.cell' (i := 9) rfl
      have x13 := bq.cell' (i := 13) rfl
      have n8 := bn.cell' (i := 8) rfl
      have zb := hB.size
      have k4 : (nk == 4) = false := by rw [beq_eq_false_iff_ne]; omega
      have k5 : (nk == 5) = false := by rw [beq_eq_false_iff_ne]; omega
      rcases HS3.out with rfl | rfl | rfl
      ·
        obtain ⟨z, ms, hgo⟩ : ∃ z ms, goT (⟨id, known, name, size, ended, last, sum, have_, file, 0, timer, patience, tries, limit⟩ : Tk) ⟨nk, nid, nn, ns_, nsum, nat_, nd, ng, nof, ncode⟩ = (z, ms) := ⟨_, _, rfl⟩
        have HE := Lib.hid (take_t H1.out H2.out HI.out HK.out ((taket_go rfl).trans hgo))
        have CG := Lib.hid (HGO.out V1 z ms hgo bq hM rfl H2.out hk hB (by omega))
        clear hgo HGO n8 x13
        go_upto_region 18 with (first
          | (refine wpList_load_row rfl 27 (.tmp 1) rfl nb rfl 27 #[.int .i64 nk, .int .i64 nid, .string nn, .int .i64 ns_, .int .i64 nsum, .int .i64 nat_, .slice D dn dc, .slice G gn gc, .int .i64 nof, .int .i64 ncode] (0, 0) _ bn Try.underlying27 rfl notesz ?_)
          | (go_at_call 77; refine CG.out.mono ?_; rintro e w2 ⟨F2, fn2, fc2, A2, an2, ac2, O2, on2, oc2, l2, rfl, bq2, hM2, hB2⟩))
        trace "D"
        replace hB := hB.trans hB2
        go_wp2_with fail
        go_ret
        exact DoT.ofR HR.out HE.out ⟨F2, fn2, fc2, A2, an2, ac2, O2, on2, oc2, l2, rfl, bq2, hM2, hB⟩
      ·
        by_cases h3 : nk = 3
        ·
          have HE := Lib.hid (take_t H1.out H2.out HI.out HK.out (taket_3e (x := (⟨id, known, name, size, ended, last, sum, have_, file, 3, timer, patience, tries, limit⟩ : Tk)) (n := ⟨nk, nid, nn, ns_, nsum, nat_, nd, ng, nof, ncode⟩) rfl h3))
          subst h3
          have CS := Lib.hid (seen_at (⟨id, known, name, size, ended, last, sum, have_, file, 3, timer, patience, tries, limit⟩ : Tk) F fn fc A an ac none 0 0 [] base q [] V1 bq hM (by simp) (by omega) hqb)
          clear HGO n8 x13 k4 k5
          go_upto_region 15 with (go_at_call 78; refine CS.out.mono ?_; rintro e w2 ⟨O2, on2, oc2, l2, rfl, bq2, hM2, hB2⟩)
          trace "E3"
          replace hB := hB.trans hB2
          have zb2 := hB.size
          have CD := Lib.hid (done_at 0 (⟨id, known, name, size, ended, last, sum, have_, file, 3, timer, patience, tries, limit⟩ : Tk) F fn fc A an ac O2 on2 oc2 l2 base q _ w2 bq2 hM2 (by simp) (by omega) hqb)
          clear CS
          go_upto_region 18 with (go_at_call 59; refine CD.out.mono ?_; rintro e w3 ⟨O3, on3, oc3, l3, rfl, bq3, hM3, hB3⟩)
          replace hB := hB.trans hB3
          go_wp2_with fail
          go_ret
          exact DoT.ofR HR.out HE.out ⟨F, fn, fc, A, an, ac, O3, on3, oc3, l3, rfl, bq3, hM3, hB⟩
        have k3 : (nk == 3) = false := by rw [beq_eq_false_iff_ne]; exact h3
        by_cases h6 : nk = 6 ∧ nof = 5
        ·
          have HE := Lib.hid (take_t H1.out H2.out HI.out HK.out (taket_3s (x := (⟨id, known, name, size, ended, last, sum, have_, file, 3, timer, patience, tries, limit⟩ : Tk)) (n := ⟨nk, nid, nn, ns_, nsum, nat_, nd, ng, nof, ncode⟩) rfl h3 h6))
          obtain ⟨rfl, rfl⟩ := h6
          have kf := bq.frozen
          have x10 := bq.cell' (i := 10) rfl
          have x12 := bq.cell' (i := 12) rfl
          clear HGO
          go_upto_region 18 with fail
          trace "F"
          clear kf x10 x12 x9 x13
          replace hM := (hM.turnQ bq (by decide) (by decide) (by decide) ((Turned.refl V1 (fun i => i = q)).set (p := ⟨q, 10, none⟩) (fun _ => rfl) (.int .i64 0)))
          replace bq := bq.set_ 10 (.int .i64 0)
          replace hM := (hM.turnQ bq (by decide) (by decide) (by decide) ((Turned.refl (V1.setCell ⟨q, 10, none⟩ (.int .i64 0)) (fun i => i = q)).set (p := ⟨q, 12, none⟩) (fun _ => rfl) (.int .i64 limit)))
          replace bq := bq.set_ 12 (.int .i64 limit)
          replace hB := (hB.setCell (p := ⟨q, 10, none⟩) hqb (.int .i64 0)).setCell (p := ⟨q, 12, none⟩) hqb (.int .i64 limit)
          generalize (V1.setCell ⟨q, 10, none⟩ (.int .i64 0)).setCell ⟨q, 12, none⟩ (.int .i64 limit) = V2 at *
          go_wp2_with fail
          go_ret
          exact DoT.ofR HR.out HE.out ⟨F, fn, fc, A, an, ac, none, 0, 0, [], rfl, bq, hM, hB⟩
        ·
          have HE := Lib.hid (take_t H1.out H2.out HI.out HK.out (taket_3n (x := (⟨id, known, name, size, ended, last, sum, have_, file, 3, timer, patience, tries, limit⟩ : Tk)) (n := ⟨nk, nid, nn, ns_, nsum, nat_, nd, ng, nof, ncode⟩) rfl h3 h6))
          have k8 : (nof == 5) = false := by
            rw [beq_eq_false_iff_ne]
            intro e
            by_cases h : nk = 6
            · exact h6 ⟨h, e⟩
            · have := HOF.out H2.out h; omega
          clear HGO h6
          go_wp2_with fail
          go_ret
          exact DoT.ofR HR.out HE.out ⟨F, fn, fc, A, an, ac, none, 0, 0, [], rfl, bq, hM, hB⟩
      ·
        by_cases h3 : nk = 3
        ·
          have HE := Lib.hid (take_t H1.out H2.out HI.out HK.out (taket_4e (x := (⟨id, known, name, size, ended, last, sum, have_, file, 4, timer, patience, tries, limit⟩ : Tk)) (n := ⟨nk, nid, nn, ns_, nsum, nat_, nd, ng, nof, ncode⟩) rfl h3))
          subst h3
          have CS := Lib.hid (seen_at (⟨id, known, name, size, ended, last, sum, have_, file, 4, timer, patience, tries, limit⟩ : Tk) F fn fc A an ac none 0 0 [] base q [] V1 bq hM (by simp) (by omega) hqb)
          clear HGO n8 x13 k4 k5
          go_upto_region 12 with (go_at_call 78; refine CS.out.mono ?_; rintro e w2 ⟨O2, on2, oc2, l2, rfl, bq2, hM2, hB2⟩)
          trace "E4"
          replace hB := hB.trans hB2
          have zb2 := hB.size
          have CD := Lib.hid (done_at 9 (⟨id, known, name, size, ended, last, sum, have_, file, 4, timer, patience, tries, limit⟩ : Tk) F fn fc A an ac O2 on2 oc2 l2 base q _ w2 bq2 hM2 (by simp) (by omega) hqb)
          clear CS
          go_upto_region 18 with (go_at_call 59; refine CD.out.mono ?_; rintro e w3 ⟨O3, on3, oc3, l3, rfl, bq3, hM3, hB3⟩)
          replace hB := hB.trans hB3
          go_wp2_with fail
          go_ret
          exact DoT.ofR HR.out HE.out ⟨F, fn, fc, A, an, ac, O3, on3, oc3, l3, rfl, bq3, hM3, hB⟩
        have k3 : (nk == 3) = false := by rw [beq_eq_false_iff_ne]; exact h3
        have HE := Lib.hid (take_t H1.out H2.out HI.out HK.out (taket_4n (x := (⟨id, known, name, size, ended, last, sum, have_, file, 4, timer, patience, tries, limit⟩ : Tk)) (n := ⟨nk, nid, nn, ns_, nsum, nat_, nd, ng, nof, ncode⟩) rfl h3))
        clear HGO
        go_wp2_with fail
        go_ret
        exact DoT.ofR HR.out HE.out ⟨F, fn, fc, A, an, ac, none, 0, 0, [], rfl, bq, hM, hB⟩
end Go.Proofs.Ytianombjgdmbeaa
