/-
  A giver at work: a tick in which nothing was heard ((*giver).wait). A tick of a giver at work (deliver.Give$1).
-/
import Derived.Test.YtianombjgdmbeaaMDeliverGives35
import Derived.Test.YtianombjgdmbeaaMDeliverGives36
namespace Go.Proofs.Ytianombjgdmbeaa
set_option linter.unusedSimpArgs false
set_option linter.unusedVariables false
open Go.RowKit

def waitR (x : Gv) (out : List Nt) : Gv × List Nt :=
  if x.timer + 1 = x.patience then
    if x.limit < x.tries + 1 then ({ x with timer := 0, tries := x.limit, stage := 4 }, out)
    else ({ x with timer := 0, tries := x.tries + 1 }, out ++ [endN x])
  else ({ x with timer := x.timer + 1 }, out)
theorem givW_yes {s0 : Int} (h : s0 = 1 ∨ s0 = 2) (x : Gv) (out : List Nt) : givW s0 x out = waitR x out := by unfold givW waitR; rw [if_pos h]
theorem givW_no {s0 : Int} (h : ¬ (s0 = 1 ∨ s0 = 2)) (x : Gv) (out : List Nt) : givW s0 x out = (x, out) := by unfold givW; rw [if_neg h]
theorem waitR_a {x : Gv} {out : List Nt} (h : ¬ x.timer + 1 = x.patience) : waitR x out = ({ x with timer := x.timer + 1 }, out) := by unfold waitR; rw [if_neg h]
theorem waitR_b {x : Gv} {out : List Nt} (h : x.timer + 1 = x.patience) (h2 : x.limit < x.tries + 1) : waitR x out = ({ x with timer := 0, tries := x.limit, stage := 4 }, out) := by unfold waitR; rw [if_pos h, if_pos h2]
theorem waitR_c {x : Gv} {out : List Nt} (h : x.timer + 1 = x.patience) (h2 : ¬ x.limit < x.tries + 1) : waitR x out = ({ x with timer := 0, tries := x.tries + 1 }, out ++ [endN x]) := by unfold waitR; rw [if_pos h, if_neg h2]
theorem endN_eq {x y : Gv} (h1 : y.id = x.id) (h2 : y.file = x.file) : endN y = endN x := by unfold endN; rw [h1, h2]
/-- What wait leaves. -/
def WaitPost (w w' : World) (base q : Nat) (F : Option Addr) (fn fc : Nat) (A : Option Addr) (an ac : Nat) (r : Gv × List Nt) (e : Ending) : Prop := e = .returned (.tuple #[]) ∧ GwAt w' base q F fn fc A an ac r.1 r.2 ∧ Below base w w'
set_option maxHeartbeats 3200000 in
set_option maxRecDepth 100000 in
theorem wait_at (x : Gv) (F : Option Addr) (fn fc : Nat) (A : Option Addr) (an ac base q : Nat) (ns : List Nt) (w : World) (h : GwAt w base q F fn fc A an ac x ns) (hI : GvI x) (hfn : fn ≤ 140737488351300) (hon : ns.length ≤ 100000) (hbase : base ≤ w.heap.size) (hbq : base ≤ q) :
    Calls Try.prog 72 #[.pointer (some ⟨q, 0, none⟩)] w fun e w' => WaitPost w w' base q F fn fc A an ac (waitR x ns) e := by
  obtain ⟨O, on, oc, l, bq, hM⟩ := h
  have hz := bq.lt
  obtain ⟨-, -, -, -, -, -, ⟨t0, t1, t2⟩, ⟨s0, s1, s2⟩⟩ := hI
  obtain ⟨id, name, file, most, burst, stage, first, at_, again, timer, patience, tries, limit⟩ := x
  unfold gw at bq
  dsimp only at bq t0 t1 t2 s0 s1 s2 ⊢
  have hB : Below base w w := Below.refl _ _
  have kf := bq.frozen
  have y9 := bq.cell' (i := 9) rfl
  go_enter Try.func72, Try.ntmps72
  go_upto_region 1 with fail
  clear kf y9
  replace hM := hM.far_ (i := 9) bq (by decide) (by decide) (by decide) (.int .i64 (timer + 1))
  replace bq := bq.set_ 9 (.int .i64 (timer + 1))
  replace hB := hB.setCell (p := ⟨q, 9, none⟩) hbq (.int .i64 (timer + 1))
  generalize w.setCell ⟨q, 9, none⟩ (.int .i64 (timer + 1)) = V1 at *
  have y9 := bq.cell' (i := 9) rfl
  have y10 := bq.cell' (i := 10) rfl
  by_cases hp : timer + 1 = patience
  rotate_left
  ·
    have g1 : decide (timer + 1 < patience) = true := decide_eq_true (by omega)
    have HR := Lib.hid (waitR_a (x := ⟨id, name, file, most, burst, stage, first, at_, again, timer, patience, tries, limit⟩) (out := ns) hp)
    clear hp
    go_still_tail 10, (by kernel_rfl)
    go_wp2_with fail
    refine bodyPost_ret (v := .tuple #[]) (by simp [results, Try.results72, go_sem]) rfl ?_
    rw [HR.out]
    exact ⟨rfl, ⟨O, on, oc, l, bq.drew, (hM.drew).as rfl rfl⟩, hB.drew⟩
  have g1 : decide (timer + 1 < patience) = false := decide_eq_false (by omega)
  have HP := Lib.hid hp
  clear hp
  go_still_tail 10, (by kernel_rfl)
  go_upto_region 2 with fail
  clear y9 y10 g1
  replace bq := bq.drew
  replace hM := hM.drew
  replace hB := hB.drew
  generalize V1.drew = V2 at *
  have kf := bq.frozen
  have y9 := bq.cell' (i := 9) rfl
  go_upto_region 3 with fail
  clear kf y9
  replace hM := hM.far_ (i := 9) bq (by decide) (by decide) (by decide) (.int .i64 0)
  replace bq := bq.set_ 9 (.int .i64 0)
  replace hB := hB.setCell (p := ⟨q, 9, none⟩) hbq (.int .i64 0)
  generalize V2.setCell ⟨q, 9, none⟩ (.int .i64 0) = V3 at *
  have y11 := bq.cell' (i := 11) rfl
  have y12 := bq.cell' (i := 12) rfl
  by_cases hl : tries = limit
  ·
    obtain rfl : limit = tries := hl.symm
    clear hl
    have g2 : (limit == limit) = true := beq_t rfl
    have HR := Lib.hid (waitR_b (x := ⟨id, name, file, most, burst, stage, first, at_, again, timer, patience, limit, limit⟩) (out := ns) HP.out (by show limit < limit + 1; omega))
    go_still_tail 10, (by kernel_rfl)
    go_upto_region 4 with fail
    clear y11 y12 g2
    replace bq := bq.drew
    replace hM := hM.drew
    replace hB := hB.drew
    generalize V3.drew = V4 at *
    have kf := bq.frozen
    have y5 := bq.cell' (i := 5) rfl
    go_wp2_with fail
    refine bodyPost_ret (v := .tuple #[]) (by simp [results, Try.results72, go_sem]) rfl ?_
    rw [HR.out]
    exact ⟨rfl, ⟨O, on, oc, l, bq.set_ 5 (.int .i64 4), (hM.far_ (i := 5) bq (by decide) (by decide) (by decide) (.int .i64 4)).as rfl rfl⟩, hB.setCell (p := ⟨q, 5, none⟩) hbq _⟩
  have g2 : (tries == limit) = false := beq_f hl
  have HR := Lib.hid (waitR_c (x := ⟨id, name, file, most, burst, stage, first, at_, again, timer, patience, tries, limit⟩) (out := ns) HP.out (by show ¬ limit < tries + 1; omega))
  clear hl
  go_still_tail 10, (by kernel_rfl)
  go_upto_region 5 with fail
  clear y11 y12 g2
  replace bq := bq.drew
  replace hM := hM.drew
  replace hB := hB.drew
  generalize V3.drew = V4 at *
  have kf := bq.frozen
  have y11 := bq.cell' (i := 11) rfl
  go_upto_region 6 with fail
  clear kf y11
  replace hM := hM.far_ (i := 11) bq (by decide) (by decide) (by decide) (.int .i64 (tries + 1))
  replace bq := bq.set_ 11 (.int .i64 (tries + 1))
  replace hB := hB.setCell (p := ⟨q, 11, none⟩) hbq (.int .i64 (tries + 1))
  generalize V4.setCell ⟨q, 11, none⟩ (.int .i64 (tries + 1)) = V5 at *
  have hbV := hB.size
  have CE := Lib.hid (end_at ⟨id, name, file, most, burst, stage, first, at_, again, 0, patience, tries + 1, limit⟩ F fn fc A an ac base q ns V5 ⟨O, on, oc, l, bq, hM.as rfl rfl⟩ hfn hon (by omega) hbq)
  go_wp2_with fail
  refine CE.out.mono ?_
  rintro e w' ⟨rfl, hG, hb⟩
  go_wp2_with fail
  go_end0
  rw [HR.out]
  exact ⟨rfl, hG, hB.trans hb⟩
end Go.Proofs.Ytianombjgdmbeaa
namespace Go.Proofs.Ytianombjgdmbeaa
set_option linter.unusedSimpArgs false
set_option linter.unusedVariables false
open Go.RowKit

/-- What a tick gives, and the error. -/
def gvsR (x : Gv) : Gv × List Nt × Int := if gvOk x = false then (gvZero, [], 11) else ((giveR x).1, (giveR x).2, 0)
theorem gvs_0 {x : Gv} (h : gvOk x = false) : gvsR x = (gvZero, [], 11) := by unfold gvsR; rw [if_pos h]
theorem gvs_1 {x : Gv} (h : gvOk x = true) : gvsR x = ((giveR x).1, (giveR x).2, 0) := by unfold gvsR; rw [if_neg (by rw [h]; simp)]
theorem gvs_over {x : Gv} (h : gvOk x = true) (h2 : x.stage = 3 ∨ x.stage = 4) : gvsR x = (x, [], 0) := by rw [gvs_1 h, giveR_over h2]
theorem gvs_go {x y : Gv} {ms : List Nt} (h : gvOk x = true) (h2 : ¬ (x.stage = 3 ∨ x.stage = 4)) (h3 : givN x.burst.toNat x [] = (y, ms)) : gvsR x = ((givW x.stage y ms).1, (givW x.stage y ms).2, 0) := by rw [gvs_1 h, giveR_go h2, h3]
theorem gvs_stage {x : Gv} (h : gvOk x = true) : 0 ≤ x.stage ∧ x.stage ≤ 4 := by
  have h2 := (gv_parts h).2.1
  unfold standB at h2
  simp only [Bool.and_eq_true, rng_iff] at h2
  exact h2.1.1
/-- The rounds, as next tells them. -/
theorem givN_next {k : Nat} {x y : Gv} {out ms : List Nt} {b : Bool} (h : nextR x out = (b, y, ms)) : givN (k + 1) x out = if b = true then givN k y ms else (y, ms) := by
  unfold nextR at h
  cases hr : givR x with
  | none =>
    rw [hr] at h
    injection h with e1 h; injection h with e2 e3
    subst e1 e2 e3
    rw [givN_none hr, if_neg (by simp)]
  | some r =>
    obtain ⟨z, n, c⟩ := r
    rw [hr] at h
    injection h with e1 h; injection h with e2 e3
    subst e1 e2 e3
    cases c
    · rw [givN_go hr, if_pos (by simp)]
    · rw [givN_last hr, if_neg (by simp)]
theorem next_keep {x y : Gv} {out ms : List Nt} {b : Bool} (hI : GvI x) (h : nextR x out = (b, y, ms)) : GvI y ∧ y.burst = x.burst ∧ (b = true → ms.length = out.length + 1) ∧ ms.length ≤ out.length + 1 := by
  unfold nextR at h
  cases hr : givR x with
  | none =>
    rw [hr] at h
    injection h with e1 h; injection h with e2 e3
    subst e1 e2 e3
    exact ⟨hI, rfl, by simp, by omega⟩
  | some r =>
    obtain ⟨z, n, c⟩ := r
    rw [hr] at h
    injection h with e1 h; injection h with e2 e3
    subst e1 e2 e3
    obtain ⟨k1, -, k3, -⟩ := givR_keep hI hr
    exact ⟨k1, k3, fun _ => by simp, by simp⟩
theorem DoG.give {w w' : World} {base q : Nat} {F : Option Addr} {fn fc : Nat} {x : Gv} {y y' : Gv} {ns ns' : List Nt} {k k' : Int} {e : Ending} (h : gvsR x = (y, ns, k)) (h' : gvsR x = (y', ns', k')) (g : DoG w w' base q F fn fc y' ns' k' e) : DoG w w' base q F fn fc y ns k e := by
  rw [h] at h'
  injection h' with e1 h'
  injection h' with e2 e3
  rw [e1, e2, e3]
  exact g
theorem GvRes.give {x : Gv} {y y' : Gv} {ns ns' : List Nt} {k k' : Int} {w w' : World} {e : Ending} (h : gvsR x = (y, ns, k)) (h' : gvsR x = (y', ns', k')) (g : GvRes w w' y' ns' k' e) : GvRes w w' y ns k e := by
  rw [h] at h'
  injection h' with e1 h'
  injection h' with e2 e3
  rw [e1, e2, e3]
  exact g
theorem DoG.at_ {w w' : World} {base q : Nat} {F A : Option Addr} {fn fc an ac : Nat} {y : Gv} {ns : List Nt} {k : Int} (h : GwAt w' base q F fn fc A an ac y ns) (hB : Below base w w') : DoG w w' base q F fn fc y ns k (.returned (.int .i64 k)) := by
  obtain ⟨O, on, oc, l, h1, h2⟩ := h
  exact ⟨A, an, ac, O, on, oc, l, rfl, h1, h2, hB⟩
def outLen : Value → Nat
  | .slice _ n _ => n
  | _ => 0
/-- The rounds' state. -/
def GpInv (w0 : World) (base q : Nat) (F : Option Addr) (fn fc : Nat) (x : Gv) (j : Nat) (w : World) : Prop :=
  ∃ y ms A an ac, GwAt w base q F fn fc A an ac y ms ∧ GvI y ∧ y.burst = x.burst ∧ (ms.length : Int) + j = x.burst ∧ givN j y ms = givN x.burst.toNat x [] ∧ Below base w0 w
set_option maxHeartbeats 6400000 in
set_option maxRecDepth 100000 in
theorem doGive_any (x : Gv) (F : Option Addr) (fn fc : Nat) (A : Option Addr) (an ac : Nat) (y : Gv) (ns : List Nt) (k : Int) (q base : Nat) (w : World) (hR : gvsR x = (y, ns, k)) (hok : gvOk x = true) (hq : Blk w q 94 (gw x F fn fc A an ac none 0 0))
    (hf : x.file.length = fn) (ha : x.again.length = an) (hOF : Own w base 5 1 F fn fc (bvs x.file)) (hOA : Own w base 66 2 A an ac (gps x.again)) (hqb : base ≤ q) (hbase : base ≤ w.heap.size) :
    Calls Try.prog 70 #[.pointer (some ⟨q, 0, none⟩)] w fun e w' => DoG w w' base q F fn fc y ns k e := by
  have HR := Lib.hid hR
  have H1 := Lib.hid hok
  have hI := GvI.of hok
  have hs := gvs_stage hok
  have hfn : fn ≤ 140737488351300 := by have := hI.long; omega
  have hG : GwAt w base q F fn fc A an ac x [] := ⟨none, 0, 0, [], hq, GvMem.none hf ha hOF hOA⟩
  have d5 : w.cell? ⟨q, 5, none⟩ = some (.int .i64 x.stage) := hq.cell' (i := 5) rfl
  clear hR hok hf ha hOF hOA hq
  by_cases h3 : 3 ≤ x.stage
  ·
    have hd : decide (3 ≤ x.stage) = true := decide_eq_true h3
    have HE := Lib.hid (gvs_over H1.out (by omega))
    clear h3 hI
    go_enter Try.func70, Try.ntmps70
    go_wp2_with fail
    go_ret
    exact DoG.give HR.out HE.out (DoG.at_ hG (Below.refl _ _))
  have hd : decide (3 ≤ x.stage) = false := decide_eq_false h3
  have HS := Lib.hid (show ¬ (x.stage = 3 ∨ x.stage = 4) by omega)
  have hb := hI.burst
  have start : GpInv w base q F fn fc x x.burst.toNat w := ⟨x, [], A, an, ac, hG, hI, rfl, by simp; omega, rfl, Below.refl _ _⟩
  obtain ⟨wt, hwt⟩ : ∃ wt, (x.stage != 0) = wt := ⟨_, rfl⟩
  have HWT : Hid (wt = true ↔ (x.stage = 1 ∨ x.stage = 2)) := Lib.hid (by
    rw [← hwt, bne_iff_ne]; omega)
  clear h3 hI hG hs
  go_enter Try.func70, Try.ntmps70
  go_wp2_with fail
  go_loopw [30] (fun _ wr => ∃ j : Nat, GpInv w base q F fn fc x j wr) (fun _ wr => x.burst.toNat - outLen ((wr.cell? ⟨q, 13, none⟩).getD undef))
  case atStart => exact ⟨_, start⟩
  case round =>
    clear start d5
    obtain ⟨j, y1, ms, A1, an1, ac1, hG, hI, hbu, hj, hN, hB⟩ := hrel
    have zB := hB.size
    have HGK := Lib.hid hG
    obtain ⟨O, on, oc, l, hq, hM⟩ := hG
    have hon : ms.length = on := hM.nl
    rw [hon] at hj
    have d13 : wr.drew.cell? ⟨q, 13, none⟩ = some (.slice O on oc) := hq.drew.cell' (i := 13) rfl
    have d4 : wr.drew.cell? ⟨q, 4, none⟩ = some (.int .i64 x.burst) := by rw [← hbu]; exact hq.drew.cell' (i := 4) rfl
    have D13 : Hid (wr.cell? ⟨q, 13, none⟩ = some (.slice O on oc)) := Lib.hid (hq.cell' (i := 13) rfl)
    have HON := Lib.hid hon
    have HB1 := Lib.hid hbu
    clear hon hbu hq hM
    cases j with
    | zero =>
      have hdl : decide ((on : Int) < x.burst) = false := decide_eq_false (by omega)
      have HN := Lib.hid hN
      have HI := Lib.hid hI
      have hob : (on : Int) ≤ 50 := by omega
      clear hN hI hj
      go_upto_region 4 with fail
      refine heldRegion (fun v => v.cell? ⟨q, 13, none⟩ = some (.slice O on oc) ∧ v.cell? ⟨q, 4, none⟩ = some (.int .i64 x.burst)) 13 (by kernel_rfl) (by kernel_rfl) ⟨d13, d4⟩ (fun hSS => ?_)
      clear hSS
      refine walk_take 0 (v := ?va0) rfl (by kernel_rfl) (by kernel_rfl) (by kernel_rfl) (fun _ _ _ h => h) (⟨d13, d4⟩) (Or.inl ⟨by rfl, ?ya0⟩) ?ra0
      case ya0 => intro w hSw; obtain ⟨hw1, hw2⟩ := hSw; (try dsimp only at hSw); go_simp; try rfl
      case' ra0 => try simp only [List.getElem_toArray, List.getElem_cons_succ, List.getElem_cons_zero, Act.put, List.setIfInBounds_toArray, List.set_cons_zero, List.set_cons_succ]
      refine walk_take 1 (v := ?va1) rfl (by kernel_rfl) (by kernel_rfl) (by kernel_rfl) (fun _ _ _ h => h) (⟨d13, d4⟩) (Or.inl ⟨by rfl, ?ya1⟩) ?ra1
      case ya1 => intro w hSw; obtain ⟨hw1, hw2⟩ := hSw; (try dsimp only at hSw); go_simp; try rfl
      case' ra1 => try simp only [List.getElem_toArray, List.getElem_cons_succ, List.getElem_cons_zero, Act.put, List.setIfInBounds_toArray, List.set_cons_zero, List.set_cons_succ]
      refine walk_take 2 (v := ?va2) rfl (by kernel_rfl) (by kernel_rfl) (by kernel_rfl) (fun _ _ _ h => h) (⟨d13, d4⟩) (Or.inl ⟨by rfl, ?ya2⟩) ?ra2
      case ya2 => intro w hSw; obtain ⟨hw1, hw2⟩ := hSw; (try dsimp only at hSw); go_simp; try rfl
      case' ra2 => try simp only [List.getElem_toArray, List.getElem_cons_succ, List.getElem_cons_zero, Act.put, List.setIfInBounds_toArray, List.set_cons_zero, List.set_cons_succ]
      refine walk_take 3 (v := ?va3) rfl (by kernel_rfl) (by kernel_rfl) (by kernel_rfl) (fun _ _ _ h => h) (⟨d13, d4⟩) (Or.inl ⟨by rfl, ?ya3⟩) ?ra3
      case ya3 => intro w hSw; obtain ⟨hw1, hw2⟩ := hSw; (try dsimp only at hSw); go_simp; try rfl
      case' ra3 => try simp only [List.getElem_toArray, List.getElem_cons_succ, List.getElem_cons_zero, Act.put, List.setIfInBounds_toArray, List.set_cons_zero, List.set_cons_succ]
      refine walk_take 4 (v := ?va4) rfl (by kernel_rfl) (by kernel_rfl) (by kernel_rfl) (fun _ _ _ h => h) (⟨d13, d4⟩) (Or.inl ⟨by rfl, ?ya4⟩) ?ra4
      case ya4 => intro w hSw; obtain ⟨hw1, hw2⟩ := hSw; (try dsimp only at hSw); go_simp; try rfl
      case' ra4 => try simp only [List.getElem_toArray, List.getElem_cons_succ, List.getElem_cons_zero, Act.put, List.setIfInBounds_toArray, List.set_cons_zero, List.set_cons_succ]
      refine walk_take 5 (v := ?va5) rfl (by kernel_rfl) (by kernel_rfl) (by kernel_rfl) (fun _ _ _ h => h) (⟨d13, d4⟩) (Or.inl ⟨by rfl, ?ya5⟩) ?ra5
      case ya5 => intro w hSw; obtain ⟨hw1, hw2⟩ := hSw; (try dsimp only at hSw); go_simp; try rfl
      case' ra5 => try simp only [List.getElem_toArray, List.getElem_cons_succ, List.getElem_cons_zero, Act.put, List.setIfInBounds_toArray, List.set_cons_zero, List.set_cons_succ]
      refine walk_take 6 (v := ?va6) rfl (by kernel_rfl) (by kernel_rfl) (by kernel_rfl) (fun _ _ _ h => h) (⟨d13, d4⟩) (Or.inl ⟨by rfl, ?ya6⟩) ?ra6
      case ya6 => intro w hSw; obtain ⟨hw1, hw2⟩ := hSw; (try dsimp only at hSw); go_simp; try rfl
      case' ra6 => try simp only [List.getElem_toArray, List.getElem_cons_succ, List.getElem_cons_zero, Act.put, List.setIfInBounds_toArray, List.set_cons_zero, List.set_cons_succ]
      refine walk_take 7 (v := ?va7) rfl (by kernel_rfl) (by kernel_rfl) (by kernel_rfl) (fun _ _ _ h => h) (⟨d13, d4⟩) (Or.inl ⟨by rfl, ?ya7⟩) ?ra7
      case ya7 => intro w hSw; obtain ⟨hw1, hw2⟩ := hSw; (try dsimp only at hSw); go_simp; try rfl
      case' ra7 => try simp only [List.getElem_toArray, List.getElem_cons_succ, List.getElem_cons_zero, Act.put, List.setIfInBounds_toArray, List.set_cons_zero, List.set_cons_succ]
      refine walk_take 8 (v := ?va8) rfl (by kernel_rfl) (by kernel_rfl) (by kernel_rfl) (fun _ _ _ h => h) (⟨d13, d4⟩) (Or.inl ⟨by rfl, ?ya8⟩) ?ra8
      case ya8 => intro w hSw; obtain ⟨hw1, hw2⟩ := hSw; (try dsimp only at hSw); go_simp; try rfl
      case' ra8 => try simp only [List.getElem_toArray, List.getElem_cons_succ, List.getElem_cons_zero, Act.put, List.setIfInBounds_toArray, List.set_cons_zero, List.set_cons_succ]
      refine walk_take 9 (v := ?va9) rfl (by kernel_rfl) (by kernel_rfl) (by kernel_rfl) (fun _ _ _ h => h) (⟨d13, d4⟩) (Or.inl ⟨by rfl, ?ya9⟩) ?ra9
      case ya9 => intro w hSw; obtain ⟨hw1, hw2⟩ := hSw; (try dsimp only at hSw); go_simp; try rfl
      case' ra9 => try simp only [List.getElem_toArray, List.getElem_cons_succ, List.getElem_cons_zero, Act.put, List.setIfInBounds_toArray, List.set_cons_zero, List.set_cons_succ]
      refine walk_take 10 (v := ?va10) rfl (by kernel_rfl) (by kernel_rfl) (by kernel_rfl) (fun _ _ _ h => h) (⟨d13, d4⟩) (Or.inl ⟨by rfl, ?ya10⟩) ?ra10
      case ya10 => intro w hSw; obtain ⟨hw1, hw2⟩ := hSw; (try dsimp only at hSw); go_simp; try rfl
      case' ra10 => try simp only [List.getElem_toArray, List.getElem_cons_succ, List.getElem_cons_zero, Act.put, List.setIfInBounds_toArray, List.set_cons_zero, List.set_cons_succ]
      refine walk_take 11 (v := ?va11) rfl (by kernel_rfl) (by kernel_rfl) (by kernel_rfl) (fun _ _ _ h => h) (⟨d13, d4⟩) (Or.inl ⟨by rfl, ?ya11⟩) ?ra11
      case ya11 => intro w hSw; obtain ⟨hw1, hw2⟩ := hSw; (try dsimp only at hSw); go_simp; try rfl
      case' ra11 => try simp only [List.getElem_toArray, List.getElem_cons_succ, List.getElem_cons_zero, Act.put, List.setIfInBounds_toArray, List.set_cons_zero, List.set_cons_succ]
      refine walk_take 12 (v := undef) rfl (by kernel_rfl) (by kernel_rfl) (by kernel_rfl) (fun _ _ _ h => h) (⟨d13, d4⟩) (Or.inr ⟨by rfl, rfl⟩) ?ra12
      case' ra12 => try simp only [List.getElem_toArray, List.getElem_cons_succ, List.getElem_cons_zero, Act.put, List.setIfInBounds_toArray, List.set_cons_zero, List.set_cons_succ]
      refine walk_tail (by kernel_rfl) ?_
      simp only [List.drop_succ_cons, List.drop_zero]
      have HGX := Lib.hid HGK.out.drew
      have hBX := hB.drew
      have HNX : Hid (givN x.burst.toNat x [] = (y1, ms)) := Lib.hid (by rw [← HN.out]; rfl)
      have HIX := HI
      have HML := Lib.hid (show ms.length ≤ 100000 by rw [HON.out]; omega)
      clear d13 d4 HGK hB HN HI
      cases wt
      ·
        have HE := Lib.hid ((gvs_go H1.out HS.out HNX.out).trans (by rw [givW_no (fun h => by have := HWT.out.2 h; cases this)]))
        go_wp2_with fail
        go_ret
        exact DoG.give HR.out HE.out (DoG.at_ HGX.out hBX)
      ·
        have HE := Lib.hid ((gvs_go H1.out HS.out HNX.out).trans (by rw [givW_yes (HWT.out.1 rfl)]))
        have CW := Lib.hid (wait_at y1 F fn fc A1 an1 ac1 base q ms _ HGX.out HIX.out hfn HML.out (by have := hBX.size; omega) hqb)
        go_wp2_with fail
        refine CW.out.mono ?_
        intro e w9 h9
        obtain ⟨rfl, hG9, hB9⟩ := h9
        go_wp2_with fail
        go_ret
        exact DoG.give HR.out HE.out (DoG.at_ hG9 (hBX.trans hB9))
    | succ j =>
      obtain ⟨b, y2, ms2, hnx⟩ : ∃ b y2 ms2, nextR y1 ms = (b, y2, ms2) := ⟨_, _, _, rfl⟩
      obtain ⟨hI2, hbu2, hl2, hl3⟩ := next_keep hI hnx
      have hN2 := givN_next (k := j) hnx
      rw [hN] at hN2
      have CN := Lib.hid (next_at y1 F fn fc A1 an1 ac1 base q ms b y2 ms2 wr.drew hnx HGK.out.drew hI (by rw [HON.out]; omega) (by simpa using (show base ≤ wr.heap.size by omega)) hqb)
      have hdl : decide ((on : Int) < x.burst) = true := decide_eq_true (by omega)
      have HN2 := Lib.hid hN2
      have HI2 := Lib.hid hI2
      have HL2 := Lib.hid hl2
      rw [HON.out] at hl3
      have hj2 : (on : Int) + j + 1 = x.burst := by omega
      have HBU := Lib.hid (hbu2.trans HB1.out)
      clear hN hI hj hN2 hI2 hl2 hnx hbu2
      go_upto_region 4 with fail
      refine heldRegion (fun v => v.cell? ⟨q, 13, none⟩ = some (.slice O on oc) ∧ v.cell? ⟨q, 4, none⟩ = some (.int .i64 x.burst)) 13 (by kernel_rfl) (by kernel_rfl) ⟨d13, d4⟩ (fun hSS => ?_)
      clear hSS
      refine walk_take 0 (v := ?vb0) rfl (by kernel_rfl) (by kernel_rfl) (by kernel_rfl) (fun _ _ _ h => h) (⟨d13, d4⟩) (Or.inl ⟨by rfl, ?yb0⟩) ?rb0
      case yb0 => intro w hSw; obtain ⟨hw1, hw2⟩ := hSw; (try dsimp only at hSw); go_simp; try rfl
      case' rb0 => try simp only [List.getElem_toArray, List.getElem_cons_succ, List.getElem_cons_zero, Act.put, List.setIfInBounds_toArray, List.set_cons_zero, List.set_cons_succ]
      refine walk_take 1 (v := ?vb1) rfl (by kernel_rfl) (by kernel_rfl) (by kernel_rfl) (fun _ _ _ h => h) (⟨d13, d4⟩) (Or.inl ⟨by rfl, ?yb1⟩) ?rb1
      case yb1 => intro w hSw; obtain ⟨hw1, hw2⟩ := hSw; (try dsimp only at hSw); go_simp; try rfl
      case' rb1 => try simp only [List.getElem_toArray, List.getElem_cons_succ, List.getElem_cons_zero, Act.put, List.setIfInBounds_toArray, List.set_cons_zero, List.set_cons_succ]
      refine walk_take 2 (v := ?vb2) rfl (by kernel_rfl) (by kernel_rfl) (by kernel_rfl) (fun _ _ _ h => h) (⟨d13, d4⟩) (Or.inl ⟨by rfl, ?yb2⟩) ?rb2
      case yb2 => intro w hSw; obtain ⟨hw1, hw2⟩ := hSw; (try dsimp only at hSw); go_simp; try rfl
      case' rb2 => try simp only [List.getElem_toArray, List.getElem_cons_succ, List.getElem_cons_zero, Act.put, List.setIfInBounds_toArray, List.set_cons_zero, List.set_cons_succ]
      refine walk_take 3 (v := ?vb3) rfl (by kernel_rfl) (by kernel_rfl) (by kernel_rfl) (fun _ _ _ h => h) (⟨d13, d4⟩) (Or.inl ⟨by rfl, ?yb3⟩) ?rb3
      case yb3 => intro w hSw; obtain ⟨hw1, hw2⟩ := hSw; (try dsimp only at hSw); go_simp; try rfl
      case' rb3 => try simp only [List.getElem_toArray, List.getElem_cons_succ, List.getElem_cons_zero, Act.put, List.setIfInBounds_toArray, List.set_cons_zero, List.set_cons_succ]
      refine walk_take 4 (v := ?vb4) rfl (by kernel_rfl) (by kernel_rfl) (by kernel_rfl) (fun _ _ _ h => h) (⟨d13, d4⟩) (Or.inl ⟨by rfl, ?yb4⟩) ?rb4
      case yb4 => intro w hSw; obtain ⟨hw1, hw2⟩ := hSw; (try dsimp only at hSw); go_simp; try rfl
      case' rb4 => try simp only [List.getElem_toArray, List.getElem_cons_succ, List.getElem_cons_zero, Act.put, List.setIfInBounds_toArray, List.set_cons_zero, List.set_cons_succ]
      refine walk_take 5 (v := ?vb5) rfl (by kernel_rfl) (by kernel_rfl) (by kernel_rfl) (fun _ _ _ h => h) (⟨d13, d4⟩) (Or.inl ⟨by rfl, ?yb5⟩) ?rb5
      case yb5 => intro w hSw; obtain ⟨hw1, hw2⟩ := hSw; (try dsimp only at hSw); go_simp; try rfl
      case' rb5 => try simp only [List.getElem_toArray, List.getElem_cons_succ, List.getElem_cons_zero, Act.put, List.setIfInBounds_toArray, List.set_cons_zero, List.set_cons_succ]
      refine walk_take 6 (v := ?vb6) rfl (by kernel_rfl) (by kernel_rfl) (by kernel_rfl) (fun _ _ _ h => h) (⟨d13, d4⟩) (Or.inl ⟨by rfl, ?yb6⟩) ?rb6
      case yb6 => intro w hSw; obtain ⟨hw1, hw2⟩ := hSw; (try dsimp only at hSw); go_simp; try rfl
      case' rb6 => try simp only [List.getElem_toArray, List.getElem_cons_succ, List.getElem_cons_zero, Act.put, List.setIfInBounds_toArray, List.set_cons_zero, List.set_cons_succ]
      refine walk_take 7 (v := ?vb7) rfl (by kernel_rfl) (by kernel_rfl) (by kernel_rfl) (fun _ _ _ h => h) (⟨d13, d4⟩) (Or.inl ⟨by rfl, ?yb7⟩) ?rb7
      case yb7 => intro w hSw; obtain ⟨hw1, hw2⟩ := hSw; (try dsimp only at hSw); go_simp; try rfl
      case' rb7 => try simp only [List.getElem_toArray, List.getElem_cons_succ, List.getElem_cons_zero, Act.put, List.setIfInBounds_toArray, List.set_cons_zero, List.set_cons_succ]
      refine walk_take 8 (v := ?vb8) rfl (by kernel_rfl) (by kernel_rfl) (by kernel_rfl) (fun _ _ _ h => h) (⟨d13, d4⟩) (Or.inl ⟨by rfl, ?yb8⟩) ?rb8
      case yb8 => intro w hSw; obtain ⟨hw1, hw2⟩ := hSw; (try dsimp only at hSw); go_simp; try rfl
      case' rb8 => try simp only [List.getElem_toArray, List.getElem_cons_succ, List.getElem_cons_zero, Act.put, List.setIfInBounds_toArray, List.set_cons_zero, List.set_cons_succ]
      refine walk_take 9 (v := ?vb9) rfl (by kernel_rfl) (by kernel_rfl) (by kernel_rfl) (fun _ _ _ h => h) (⟨d13, d4⟩) (Or.inl ⟨by rfl, ?yb9⟩) ?rb9
      case yb9 => intro w hSw; obtain ⟨hw1, hw2⟩ := hSw; (try dsimp only at hSw); go_simp; try rfl
      case' rb9 => try simp only [List.getElem_toArray, List.getElem_cons_succ, List.getElem_cons_zero, Act.put, List.setIfInBounds_toArray, List.set_cons_zero, List.set_cons_succ]
      refine walk_take 10 (v := ?vb10) rfl (by kernel_rfl) (by kernel_rfl) (by kernel_rfl) (fun _ _ _ h => h) (⟨d13, d4⟩) (Or.inl ⟨by rfl, ?yb10⟩) ?rb10
      case yb10 => intro w hSw; obtain ⟨hw1, hw2⟩ := hSw; (try dsimp only at hSw); go_simp; try rfl
      case' rb10 => try simp only [List.getElem_toArray, List.getElem_cons_succ, List.getElem_cons_zero, Act.put, List.setIfInBounds_toArray, List.set_cons_zero, List.set_cons_succ]
      refine walk_take 11 (v := ?vb11) rfl (by kernel_rfl) (by kernel_rfl) (by kernel_rfl) (fun _ _ _ h => h) (⟨d13, d4⟩) (Or.inl ⟨by rfl, ?yb11⟩) ?rb11
      case yb11 => intro w hSw; obtain ⟨hw1, hw2⟩ := hSw; (try dsimp only at hSw); go_simp; try rfl
      case' rb11 => try simp only [List.getElem_toArray, List.getElem_cons_succ, List.getElem_cons_zero, Act.put, List.setIfInBounds_toArray, List.set_cons_zero, List.set_cons_succ]
      refine walk_take 12 (v := ?vb12) rfl (by kernel_rfl) (by kernel_rfl) (by kernel_rfl) (fun _ _ _ h => h) (⟨d13, d4⟩) (Or.inl ⟨by rfl, ?yb12⟩) ?rb12
      case yb12 => intro w hSw; obtain ⟨hw1, hw2⟩ := hSw; (try dsimp only at hSw); go_simp; try rfl
      case' rb12 => try simp only [List.getElem_toArray, List.getElem_cons_succ, List.getElem_cons_zero, Act.put, List.setIfInBounds_toArray, List.set_cons_zero, List.set_cons_succ]
      refine walk_tail (by kernel_rfl) ?_
      simp only [List.drop_succ_cons, List.drop_zero]
      go_wp2_with fail
      refine CN.out.mono ?_
      intro e w1 hnp
      obtain ⟨rfl, A2, an2, ac2, hG2, hB2⟩ := hnp
      have hBX : Below base w w1 := (hB.drew).trans hB2
      clear hB hB2 d13 d4 CN
      cases b with
      | false =>
        have HGX := Lib.hid hG2
        have HIX := HI2
        have HML := Lib.hid (show ms2.length ≤ 100000 by omega)
        have HNX : Hid (givN x.burst.toNat x [] = (y2, ms2)) := Lib.hid (by rw [HN2.out, if_neg (by simp)])
        clear hG2 HN2 HL2 HI2
        cases wt
        ·
          have HE := Lib.hid ((gvs_go H1.out HS.out HNX.out).trans (by rw [givW_no (fun h => by have := HWT.out.2 h; cases this)]))
          go_wp2_with fail
          go_ret
          exact DoG.give HR.out HE.out (DoG.at_ HGX.out hBX)
        ·
          have HE := Lib.hid ((gvs_go H1.out HS.out HNX.out).trans (by rw [givW_yes (HWT.out.1 rfl)]))
          have CW := Lib.hid (wait_at y2 F fn fc A2 an2 ac2 base q ms2 _ HGX.out HIX.out hfn HML.out (by have := hBX.size; omega) hqb)
          go_wp2_with fail
          refine CW.out.mono ?_
          intro e w9 h9
          obtain ⟨rfl, hG9, hB9⟩ := h9
          go_wp2_with fail
          go_ret
          exact DoG.give HR.out HE.out (DoG.at_ hG9 (hBX.trans hB9))
      | true =>
        have HGX := Lib.hid hG2
        have HL3 : Hid (ms2.length = on + 1) := Lib.hid (by have := HL2.out rfl; rw [HON.out] at this; exact this)
        have HN3 : Hid (givN j y2 ms2 = givN x.burst.toNat x []) := Lib.hid (by rw [HN2.out, if_pos rfl])
        clear hG2 HL2 HN2
        go_wp2_with fail
        go_roundw
        case rel => exact ⟨j, y2, ms2, A2, an2, ac2, HGX.out, HI2.out, HBU.out, by rw [HL3.out]; omega, HN3.out, hBX⟩
        case measure =>
          obtain ⟨O2, on2, oc2, l2, hq2, hM2⟩ := HGX.out
          have e2 : w1.cell? ⟨q, 13, none⟩ = some (.slice O2 on2 oc2) := hq2.cell' (i := 13) rfl
          have e3 := HL3.out
          have e4 := hM2.nl
          rw [e2, D13.out]
          simp only [Option.getD_some, outLen]
          omega
end Go.Proofs.Ytianombjgdmbeaa
