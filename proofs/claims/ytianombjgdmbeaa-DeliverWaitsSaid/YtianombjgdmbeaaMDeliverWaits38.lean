/-
  A tick of a taker at work (Wait$1). A tick of a taker, by the program (deliver.Wait).
-/
import Derived.Test.YtianombjgdmbeaaMDeliverWaits36
import Derived.Test.YtianombjgdmbeaaMDeliverWaits37
import Derived.Test.YtianombjgdmbeaaMDeliverWaits34
namespace Go.Proofs.Ytianombjgdmbeaa
set_option linter.unusedSimpArgs false
set_option linter.unusedVariables false
open Go.RowKit

theorem GvMem.turnQ {W V : World} {base q : Nat} {t : TypeId} {cs : Array Value} {y : Gv} {ns : List Nt} {F A O : Option Addr} {fn fc an ac on oc : Nat} {l : List NtR} (h : GvMem W base y ns F fn fc A an ac O on oc l) (hq : Blk W q t cs) (h1 : 5 ≠ t) (h2 : 66 ≠ t) (h3 : 27 ≠ t) (k : Turned W V (fun i => i = q)) : GvMem V base y ns F fn fc A an ac O on oc l :=
  ⟨h.fl, h.al, h.nl, h.ln, h.file.turned k (fun i hi e => h.file.notBlk hq h1 (by rw [hi, e])), h.again.turned k (fun i hi e => h.again.notBlk hq h2 (by rw [hi, e])), h.out.turned k (fun i hi e => h.out.notBlk hq h3 (by rw [hi, e])),
    h.parts.map (fun e s A n c xs ho he => ho.turned k (fun i hi e2 => ho.notBlk hq (by rcases he with rfl | rfl <;> assumption) (by rw [hi, e2]))), h.far⟩
theorem GvMem.drewQ {W : World} {base : Nat} {y : Gv} {ns : List Nt} {F A O : Option Addr} {fn fc an ac on oc : Nat} {l : List NtR} (h : GvMem W base y ns F fn fc A an ac O on oc l) : GvMem W.drew base y ns F fn fc A an ac O on oc l :=
  ⟨h.fl, h.al, h.nl, h.ln, h.file.drew, h.again.drew, h.out.drew, h.parts.map (fun e s A n c xs k he => k.drew), h.far⟩
theorem srt_len : ∀ {l : List (Int × Int)} {e : Int}, Srt e l → e + (l.length : Int) ≤ endR e l
  | [], _, _ => by simp [endR]
  | g :: l, e, h => by
    have h1 := srt_len h.2.2
    have h2 := h.1
    have h3 := h.2.1
    show e + ((l.length + 1 : Nat) : Int) ≤ endR g.2 l
    omega
theorem DoT.of {r : Tk × List Nt} {y y' : Tk} {ns ns' : List Nt} {k : Int} {w w' : World} {base q : Nat} {e : Ending} (h : r = (y, ns)) (h' : r = (y', ns')) (g : DoT w w' base q y' ns' k e) : DoT w w' base q y ns k e := by
  rw [h] at h'
  injection h' with e1 e2
  rw [e1, e2]
  exact g
theorem SayT.do_ {w v w' : World} {base q : Nat} {x : Tk} {ns : List Nt} {F A : Option Addr} {fn fc an ac : Nat} {e : Ending} {k : Int} (h : SayT v w' base q x ns F fn fc A an ac e) (hB : Below base w v) : DoT w w' base q x ns k (.returned (.int .i64 k)) := by
  obtain ⟨O, on, oc, l, -, h1, h2, h3⟩ := h
  exact ⟨F, fn, fc, A, an, ac, O, on, oc, l, rfl, h1, h2, hB.trans h3⟩
set_option maxHeartbeats 12800000 in
set_option maxRecDepth 100000 in
theorem doWait_any (x y : Tk) (ns : List Nt) (F : Option Addr) (fn fc : Nat) (A : Option Addr) (an ac base q : Nat) (w : World) (hr : waitT x = (y, ns)) (hx : tkOk x = true) (hq : Blk w q 86 (tw x A an ac F fn fc none 0 0)) (hF : Own w base 5 1 F fn fc (bvs x.file)) (hA : Own w base 66 2 A an ac (gps x.have_)) (hf : x.file.length = fn) (ha : x.have_.length = an) (hbase : base ≤ w.heap.size) (hbq : base ≤ q) :
    Calls Try.prog 56 #[.pointer (some ⟨q, 0, none⟩)] w fun e w' => DoT w w' base q y ns 0 e := by
  have HR := Lib.hid hr
  have hM : GvMem w base (pg x) [] F fn fc A an ac none 0 0 [] := GvMem.none hf ha hF hA
  obtain ⟨⟨ht1, ht2, ht3⟩, ⟨hu1, hu2, hu3⟩, hl1, hs1, hsr, hlong⟩ := TkI.of hx
  have HSR := Lib.hid hsr
  have han : an ≤ 100000 := by
    have := srt_len hsr
    omega
  have hB : Below base w w := Below.refl _ _
  have bq := hq
  clear hr hF hA hq hsr hlong hf ha hs1
  obtain ⟨id, known, name, size, ended, last, sum, have_, file, stage, timer, patience, tries, limit⟩ := x
  unfold tw at bq
  dsimp only at bq ht1 ht2 ht3 hu1 hu2 hu3 hl1 HSR
  have x9 := bq.cell' (i := 9) rfl
  have x4 := bq.cell' (i := 4) rfl
  go_enter Try.func56, Try.ntmps56
  by_cases hA0 : stage = 0 ∧ ended = true
  ·
    obtain ⟨rfl, rfl⟩ := hA0
    have CL := Lib.hid (late_at (⟨id, known, name, size, true, last, sum, have_, file, 0, timer, patience, tries, limit⟩ : Tk) A an ac F fn fc none 0 0 q w bq ht1 ht2 ht3)
    unfold tw at CL
    dsimp only at CL
    trace "A"
    go_wp2_with fail
    refine CL.out.mono ?_
    rintro e w1 ⟨rfl, hq1, hT⟩
    clear x9 x4 CL
    replace hM := hM.turnQ bq (by decide) (by decide) (by decide) hT
    replace hB := hB.trans (hT.below (fun k hk => by omega) hbase)
    have zb := hB.size
    have bq := hq1
    clear hq1 hT
    by_cases hp : timer + 1 = patience
    rotate_left
    ·
      have HE := Lib.hid (waitT_a (x := (⟨id, known, name, size, true, last, sum, have_, file, 0, timer, patience, tries, limit⟩ : Tk)) ⟨rfl, rfl⟩ hp)
      rw [decide_eq_false hp]
      rw [if_neg hp] at bq
      clear hp
      go_wp2_with fail
      go_ret
      exact DoT.of HR.out (HE.out) ⟨F, fn, fc, A, an, ac, none, 0, 0, [], rfl, bq, hM, hB⟩
    rw [decide_eq_true hp]
    rw [if_pos hp] at bq
    trace "B"
    go_upto_region 3 with fail
    have y12 : w1.drew.cell? ⟨q, 12, none⟩ = some (.int .i64 tries) := bq.cell' (i := 12) rfl
    have y13 : w1.drew.cell? ⟨q, 13, none⟩ = some (.int .i64 limit) := bq.cell' (i := 13) rfl
    by_cases hl : tries = limit
    ·
      have HE := Lib.hid (waitT_b (x := (⟨id, known, name, size, true, last, sum, have_, file, 0, timer, patience, tries, limit⟩ : Tk)) ⟨rfl, rfl⟩ hp hl)
      have hlb : (tries == limit) = true := by rw [beq_iff_eq]; exact hl
      clear hp hl
      refine freeRegion (fun v => v.cell? ⟨q, 12, none⟩ = some (.int .i64 tries) ∧ v.cell? ⟨q, 13, none⟩ = some (.int .i64 limit)) (by kernel_rfl) (by kernel_rfl) ⟨y12, y13⟩ (fun hSS => ?_)
      clear hSS
      replace hM := hM.drewQ
      replace hB := hB.drew
      replace bq := bq.drew
      generalize w1.drew = V1 at *
      refine free_take 0 (v := ?va0) rfl (by kernel_rfl) (by kernel_rfl) (fun _ _ _ h => h) (⟨y12, y13⟩) (Or.inl ⟨by rfl, ?ya0⟩) ?ra0
      case ya0 => intro w hSw; obtain ⟨hw0, hw1⟩ := hSw; (try dsimp only at hSw); go_simp; try rfl
      case' ra0 => try simp only [List.getElem_toArray, List.getElem_cons_succ, List.getElem_cons_zero, Act.put, List.setIfInBounds_toArray, List.set_cons_zero, List.set_cons_succ]
      refine free_take 1 (v := ?va1) rfl (by kernel_rfl) (by kernel_rfl) (fun _ _ _ h => h) (⟨y12, y13⟩) (Or.inl ⟨by rfl, ?ya1⟩) ?ra1
      case ya1 => intro w hSw; obtain ⟨hw0, hw1⟩ := hSw; (try dsimp only at hSw); go_simp; try rfl
      case' ra1 => try simp only [List.getElem_toArray, List.getElem_cons_succ, List.getElem_cons_zero, Act.put, List.setIfInBounds_toArray, List.set_cons_zero, List.set_cons_succ]
      refine free_take 2 (v := ?va2) rfl (by kernel_rfl) (by kernel_rfl) (fun _ _ _ h => h) (⟨y12, y13⟩) (Or.inl ⟨by rfl, ?ya2⟩) ?ra2
      case ya2 => intro w hSw; obtain ⟨hw0, hw1⟩ := hSw; (try dsimp only at hSw); go_simp; try rfl
      case' ra2 => try simp only [List.getElem_toArray, List.getElem_cons_succ, List.getElem_cons_zero, Act.put, List.setIfInBounds_toArray, List.set_cons_zero, List.set_cons_succ]
      refine free_take 3 (v := ?va3) rfl (by kernel_rfl) (by kernel_rfl) (fun _ _ _ h => h) (⟨y12, y13⟩) (Or.inl ⟨by rfl, ?ya3⟩) ?ra3
      case ya3 => intro w hSw; obtain ⟨hw0, hw1⟩ := hSw; (try dsimp only at hSw); go_simp; try rfl
      case' ra3 => try simp only [List.getElem_toArray, List.getElem_cons_succ, List.getElem_cons_zero, Act.put, List.setIfInBounds_toArray, List.set_cons_zero, List.set_cons_succ]
      refine free_take 4 (v := ?va4) rfl (by kernel_rfl) (by kernel_rfl) (fun _ _ _ h => h) (⟨y12, y13⟩) (Or.inl ⟨by rfl, ?ya4⟩) ?ra4
      case ya4 => intro w hSw; obtain ⟨hw0, hw1⟩ := hSw; (try dsimp only at hSw); go_simp; try rfl
      case' ra4 => try simp only [List.getElem_toArray, List.getElem_cons_succ, List.getElem_cons_zero, Act.put, List.setIfInBounds_toArray, List.set_cons_zero, List.set_cons_succ]
      refine free_take 5 (v := ?va5) rfl (by kernel_rfl) (by kernel_rfl) (fun _ _ _ h => h) (⟨y12, y13⟩) (Or.inl ⟨by rfl, ?ya5⟩) ?ra5
      case ya5 => intro w hSw; obtain ⟨hw0, hw1⟩ := hSw; (try dsimp only at hSw); go_simp; try rfl
      case' ra5 => try simp only [List.getElem_toArray, List.getElem_cons_succ, List.getElem_cons_zero, Act.put, List.setIfInBounds_toArray, List.set_cons_zero, List.set_cons_succ]
      refine free_take 6 (v := ?va6) rfl (by kernel_rfl) (by kernel_rfl) (fun _ _ _ h => h) (⟨y12, y13⟩) (Or.inl ⟨by rfl, ?ya6⟩) ?ra6
      case ya6 => intro w hSw; obtain ⟨hw0, hw1⟩ := hSw; (try dsimp only at hSw); go_simp; try rfl
      case' ra6 => try simp only [List.getElem_toArray, List.getElem_cons_succ, List.getElem_cons_zero, Act.put, List.setIfInBounds_toArray, List.set_cons_zero, List.set_cons_succ]
      refine free_take 7 (v := ?va7) rfl (by kernel_rfl) (by kernel_rfl) (fun _ _ _ h => h) (⟨y12, y13⟩) (Or.inl ⟨by rfl, ?ya7⟩) ?ra7
      case ya7 => intro w hSw; obtain ⟨hw0, hw1⟩ := hSw; (try dsimp only at hSw); go_simp; try rfl
      case' ra7 => try simp only [List.getElem_toArray, List.getElem_cons_succ, List.getElem_cons_zero, Act.put, List.setIfInBounds_toArray, List.set_cons_zero, List.set_cons_succ]
      refine free_take 8 (v := ?va8) rfl (by kernel_rfl) (by kernel_rfl) (fun _ _ _ h => h) (⟨y12, y13⟩) (Or.inl ⟨by rfl, ?ya8⟩) ?ra8
      case ya8 => intro w hSw; obtain ⟨hw0, hw1⟩ := hSw; (try dsimp only at hSw); go_simp; try rfl
      case' ra8 => try simp only [List.getElem_toArray, List.getElem_cons_succ, List.getElem_cons_zero, Act.put, List.setIfInBounds_toArray, List.set_cons_zero, List.set_cons_succ]
      refine free_take 9 (v := ?va9) rfl (by kernel_rfl) (by kernel_rfl) (fun _ _ _ h => h) (⟨y12, y13⟩) (Or.inl ⟨by rfl, ?ya9⟩) ?ra9
      case ya9 => intro w hSw; obtain ⟨hw0, hw1⟩ := hSw; (try dsimp only at hSw); go_simp; try rfl
      case' ra9 => try simp only [List.getElem_toArray, List.getElem_cons_succ, List.getElem_cons_zero, Act.put, List.setIfInBounds_toArray, List.set_cons_zero, List.set_cons_succ]
      refine free_take 10 (v := ?va10) rfl (by kernel_rfl) (by kernel_rfl) (fun _ _ _ h => h) (⟨y12, y13⟩) (Or.inl ⟨by rfl, ?ya10⟩) ?ra10
      case ya10 => intro w hSw; obtain ⟨hw0, hw1⟩ := hSw; (try dsimp only at hSw); go_simp; try rfl
      case' ra10 => try simp only [List.getElem_toArray, List.getElem_cons_succ, List.getElem_cons_zero, Act.put, List.setIfInBounds_toArray, List.set_cons_zero, List.set_cons_succ]
      refine free_end (by kernel_rfl) ?_
      clear y12 y13
      have kf := bq.frozen
      have y9 := bq.cell' (i := 9) rfl
      go_upto_region 10 with fail
      clear kf y9
      replace hM := hM.turnQ bq (by decide) (by decide) (by decide) ((Turned.refl V1 (fun i => i = q)).set (p := ⟨q, 9, none⟩) (fun _ => rfl) (.int .i64 4))
      replace bq := bq.set_ 9 (.int .i64 4)
      replace hB := hB.setCell (p := ⟨q, 9, none⟩) hbq (.int .i64 4)
      generalize V1.setCell ⟨q, 9, none⟩ (.int .i64 4) = V2 at *
      go_wp2_with fail
      go_ret
      exact DoT.of HR.out (HE.out) ⟨F, fn, fc, A, an, ac, none, 0, 0, [], rfl, bq, hM, hB⟩
    ·
      have HE := Lib.hid (waitT_c (x := (⟨id, known, name, size, true, last, sum, have_, file, 0, timer, patience, tries, limit⟩ : Tk)) ⟨rfl, rfl⟩ hp hl)
      have hlb : (tries == limit) = false := by rw [beq_eq_false_iff_ne]; exact hl
      clear hp hl
      refine freeRegion (fun v => v.cell? ⟨q, 12, none⟩ = some (.int .i64 tries) ∧ v.cell? ⟨q, 13, none⟩ = some (.int .i64 limit)) (by kernel_rfl) (by kernel_rfl) ⟨y12, y13⟩ (fun hSS => ?_)
      clear hSS
      replace hM := hM.drewQ
      replace hB := hB.drew
      replace bq := bq.drew
      generalize w1.drew = V1 at *
      refine free_take 0 (v := ?vb0) rfl (by kernel_rfl) (by kernel_rfl) (fun _ _ _ h => h) (⟨y12, y13⟩) (Or.inl ⟨by rfl, ?yb0⟩) ?rb0
      case yb0 => intro w hSw; obtain ⟨hw0, hw1⟩ := hSw; (try dsimp only at hSw); go_simp; try rfl
      case' rb0 => try simp only [List.getElem_toArray, List.getElem_cons_succ, List.getElem_cons_zero, Act.put, List.setIfInBounds_toArray, List.set_cons_zero, List.set_cons_succ]
      refine free_take 1 (v := ?vb1) rfl (by kernel_rfl) (by kernel_rfl) (fun _ _ _ h => h) (⟨y12, y13⟩) (Or.inl ⟨by rfl, ?yb1⟩) ?rb1
      case yb1 => intro w hSw; obtain ⟨hw0, hw1⟩ := hSw; (try dsimp only at hSw); go_simp; try rfl
      case' rb1 => try simp only [List.getElem_toArray, List.getElem_cons_succ, List.getElem_cons_zero, Act.put, List.setIfInBounds_toArray, List.set_cons_zero, List.set_cons_succ]
      refine free_take 2 (v := ?vb2) rfl (by kernel_rfl) (by kernel_rfl) (fun _ _ _ h => h) (⟨y12, y13⟩) (Or.inl ⟨by rfl, ?yb2⟩) ?rb2
      case yb2 => intro w hSw; obtain ⟨hw0, hw1⟩ := hSw; (try dsimp only at hSw); go_simp; try rfl
      case' rb2 => try simp only [List.getElem_toArray, List.getElem_cons_succ, List.getElem_cons_zero, Act.put, List.setIfInBounds_toArray, List.set_cons_zero, List.set_cons_succ]
      refine free_take 3 (v := ?vb3) rfl (by kernel_rfl) (by kernel_rfl) (fun _ _ _ h => h) (⟨y12, y13⟩) (Or.inl ⟨by rfl, ?yb3⟩) ?rb3
      case yb3 => intro w hSw; obtain ⟨hw0, hw1⟩ := hSw; (try dsimp only at hSw); go_simp; try rfl
      case' rb3 => try simp only [List.getElem_toArray, List.getElem_cons_succ, List.getElem_cons_zero, Act.put, List.setIfInBounds_toArray, List.set_cons_zero, List.set_cons_succ]
      refine free_take 4 (v := ?vb4) rfl (by kernel_rfl) (by kernel_rfl) (fun _ _ _ h => h) (⟨y12, y13⟩) (Or.inl ⟨by rfl, ?yb4⟩) ?rb4
      case yb4 => intro w hSw; obtain ⟨hw0, hw1⟩ := hSw; (try dsimp only at hSw); go_simp; try rfl
      case' rb4 => try simp only [List.getElem_toArray, List.getElem_cons_succ, List.getElem_cons_zero, Act.put, List.setIfInBounds_toArray, List.set_cons_zero, List.set_cons_succ]
      refine free_take 5 (v := ?vb5) rfl (by kernel_rfl) (by kernel_rfl) (fun _ _ _ h => h) (⟨y12, y13⟩) (Or.inl ⟨by rfl, ?yb5⟩) ?rb5
      case yb5 => intro w hSw; obtain ⟨hw0, hw1⟩ := hSw; (try dsimp only at hSw); go_simp; try rfl
      case' rb5 => try simp only [List.getElem_toArray, List.getElem_cons_succ, List.getElem_cons_zero, Act.put, List.setIfInBounds_toArray, List.set_cons_zero, List.set_cons_succ]
      refine free_take 6 (v := ?vb6) rfl (by kernel_rfl) (by kernel_rfl) (fun _ _ _ h => h) (⟨y12, y13⟩) (Or.inl ⟨by rfl, ?yb6⟩) ?rb6
      case yb6 => intro w hSw; obtain ⟨hw0, hw1⟩ := hSw; (try dsimp only at hSw); go_simp; try rfl
      case' rb6 => try simp only [List.getElem_toArray, List.getElem_cons_succ, List.getElem_cons_zero, Act.put, List.setIfInBounds_toArray, List.set_cons_zero, List.set_cons_succ]
      refine free_take 7 (v := ?vb7) rfl (by kernel_rfl) (by kernel_rfl) (fun _ _ _ h => h) (⟨y12, y13⟩) (Or.inl ⟨by rfl, ?yb7⟩) ?rb7
      case yb7 => intro w hSw; obtain ⟨hw0, hw1⟩ := hSw; (try dsimp only at hSw); go_simp; try rfl
      case' rb7 => try simp only [List.getElem_toArray, List.getElem_cons_succ, List.getElem_cons_zero, Act.put, List.setIfInBounds_toArray, List.set_cons_zero, List.set_cons_succ]
      refine free_take 8 (v := ?vb8) rfl (by kernel_rfl) (by kernel_rfl) (fun _ _ _ h => h) (⟨y12, y13⟩) (Or.inl ⟨by rfl, ?yb8⟩) ?rb8
      case yb8 => intro w hSw; obtain ⟨hw0, hw1⟩ := hSw; (try dsimp only at hSw); go_simp; try rfl
      case' rb8 => try simp only [List.getElem_toArray, List.getElem_cons_succ, List.getElem_cons_zero, Act.put, List.setIfInBounds_toArray, List.set_cons_zero, List.set_cons_succ]
      refine free_take 9 (v := ?vb9) rfl (by kernel_rfl) (by kernel_rfl) (fun _ _ _ h => h) (⟨y12, y13⟩) (Or.inl ⟨by rfl, ?yb9⟩) ?rb9
      case yb9 => intro w hSw; obtain ⟨hw0, hw1⟩ := hSw; (try dsimp only at hSw); go_simp; try rfl
      case' rb9 => try simp only [List.getElem_toArray, List.getElem_cons_succ, List.getElem_cons_zero, Act.put, List.setIfInBounds_toArray, List.set_cons_zero, List.set_cons_succ]
      refine free_take 10 (v := ?vb10) rfl (by kernel_rfl) (by kernel_rfl) (fun _ _ _ h => h) (⟨y12, y13⟩) (Or.inl ⟨by rfl, ?yb10⟩) ?rb10
      case yb10 => intro w hSw; obtain ⟨hw0, hw1⟩ := hSw; (try dsimp only at hSw); go_simp; try rfl
      case' rb10 => try simp only [List.getElem_toArray, List.getElem_cons_succ, List.getElem_cons_zero, Act.put, List.setIfInBounds_toArray, List.set_cons_zero, List.set_cons_succ]
      refine free_end (by kernel_rfl) ?_
      clear y12 y13
      have kf := bq.frozen
      have y12 := bq.cell' (i := 12) rfl
      trace "C"
      go_upto_region 6 with fail
      clear kf y12
      replace hM := hM.turnQ bq (by decide) (by decide) (by decide) ((Turned.refl V1 (fun i => i = q)).set (p := ⟨q, 12, none⟩) (fun _ => rfl) (.int .i64 (tries + 1)))
      replace bq := bq.set_ 12 (.int .i64 (tries + 1))
      replace hB := hB.setCell (p := ⟨q, 12, none⟩) hbq (.int .i64 (tries + 1))
      generalize V1.setCell ⟨q, 12, none⟩ (.int .i64 (tries + 1)) = V2 at *
      have zb2 := hB.size
      have CK := Lib.hid (ask_at (⟨id, known, name, size, true, last, sum, have_, file, 0, 0, patience, tries + 1, limit⟩ : Tk) F fn fc A an ac none 0 0 [] base q [] V2 bq hM hl1 HSR.out han (by simp) (by omega) hbq)
      go_wp2_with fail
      refine CK.out.mono ?_
      intro e w3 h3
      have h3e : e = .returned (.tuple #[]) := by obtain ⟨O1, on1, oc1, l1, h, -⟩ := h3; exact h
      subst h3e
      go_wp2_with fail
      go_ret
      exact DoT.of HR.out HE.out (SayT.do_ h3 hB)
  ·
    by_cases s0 : stage = 0
    ·
      have he : ended = false := by
        cases h : ended
        · rfl
        · exact absurd ⟨s0, h⟩ hA0
      subst s0
      subst he
      have HE := Lib.hid (waitT_f (x := (⟨id, known, name, size, false, last, sum, have_, file, 0, timer, patience, tries, limit⟩ : Tk)) hA0 (by show ¬ ((0 : Int) = 3 ∧ _); omega))
      clear hA0
      go_upto_region 7 with fail
      clear x9 x4
      trace "Rm"
      have z9 : w.drew.cell? ⟨q, 9, none⟩ = some (.int .i64 0) := bq.cell' (i := 9) rfl
      have z12 : w.drew.cell? ⟨q, 12, none⟩ = some (.int .i64 tries) := bq.cell' (i := 12) rfl
      have z13 : w.drew.cell? ⟨q, 13, none⟩ = some (.int .i64 limit) := bq.cell' (i := 13) rfl
      refine freeRegion (fun v => v.cell? ⟨q, 9, none⟩ = some (.int .i64 0) ∧ v.cell? ⟨q, 12, none⟩ = some (.int .i64 tries) ∧ v.cell? ⟨q, 13, none⟩ = some (.int .i64 limit)) (by kernel_rfl) (by kernel_rfl) ⟨z9, z12, z13⟩ (fun hSS => ?_)
      clear hSS
      replace hM := hM.drewQ
      replace hB := hB.drew
      replace bq := bq.drew
      generalize w.drew = V1 at *
      refine free_take 0 (v := ?vm0) rfl (by kernel_rfl) (by kernel_rfl) (fun _ _ _ h => h) (⟨z9, z12, z13⟩) (Or.inl ⟨by rfl, ?ym0⟩) ?rm0
      case ym0 => intro w hSw; obtain ⟨hw9, hw12, hw13⟩ := hSw; (try dsimp only at hSw); go_simp; try rfl
      case' rm0 => try simp only [List.getElem_toArray, List.getElem_cons_succ, List.getElem_cons_zero, Act.put, List.setIfInBounds_toArray, List.set_cons_zero, List.set_cons_succ]
      refine free_take 1 (v := ?vm1) rfl (by kernel_rfl) (by kernel_rfl) (fun _ _ _ h => h) (⟨z9, z12, z13⟩) (Or.inl ⟨by rfl, ?ym1⟩) ?rm1
      case ym1 => intro w hSw; obtain ⟨hw9, hw12, hw13⟩ := hSw; (try dsimp only at hSw); go_simp; try rfl
      case' rm1 => try simp only [List.getElem_toArray, List.getElem_cons_succ, List.getElem_cons_zero, Act.put, List.setIfInBounds_toArray, List.set_cons_zero, List.set_cons_succ]
      refine free_take 2 (v := ?vm2) rfl (by kernel_rfl) (by kernel_rfl) (fun _ _ _ h => h) (⟨z9, z12, z13⟩) (Or.inl ⟨by rfl, ?ym2⟩) ?rm2
      case ym2 => intro w hSw; obtain ⟨hw9, hw12, hw13⟩ := hSw; (try dsimp only at hSw); go_simp; try rfl
      case' rm2 => try simp only [List.getElem_toArray, List.getElem_cons_succ, List.getElem_cons_zero, Act.put, List.setIfInBounds_toArray, List.set_cons_zero, List.set_cons_succ]
      refine free_take 3 (v := ?vm3) rfl (by kernel_rfl) (by kernel_rfl) (fun _ _ _ h => h) (⟨z9, z12, z13⟩) (Or.inl ⟨by rfl, ?ym3⟩) ?rm3
      case ym3 => intro w hSw; obtain ⟨hw9, hw12, hw13⟩ := hSw; (try dsimp only at hSw); go_simp; try rfl
      case' rm3 => try simp only [List.getElem_toArray, List.getElem_cons_succ, List.getElem_cons_zero, Act.put, List.setIfInBounds_toArray, List.set_cons_zero, List.set_cons_succ]
      refine free_take 4 (v := ?vm4) rfl (by kernel_rfl) (by kernel_rfl) (fun _ _ _ h => h) (⟨z9, z12, z13⟩) (Or.inl ⟨by rfl, ?ym4⟩) ?rm4
      case ym4 => intro w hSw; obtain ⟨hw9, hw12, hw13⟩ := hSw; (try dsimp only at hSw); go_simp; try rfl
      case' rm4 => try simp only [List.getElem_toArray, List.getElem_cons_succ, List.getElem_cons_zero, Act.put, List.setIfInBounds_toArray, List.set_cons_zero, List.set_cons_succ]
      refine free_take 5 (v := ?vm5) rfl (by kernel_rfl) (by kernel_rfl) (fun _ _ _ h => h) (⟨z9, z12, z13⟩) (Or.inl ⟨by rfl, ?ym5⟩) ?rm5
      case ym5 => intro w hSw; obtain ⟨hw9, hw12, hw13⟩ := hSw; (try dsimp only at hSw); go_simp; try rfl
      case' rm5 => try simp only [List.getElem_toArray, List.getElem_cons_succ, List.getElem_cons_zero, Act.put, List.setIfInBounds_toArray, List.set_cons_zero, List.set_cons_succ]
      refine free_take 6 (v := ?vm6) rfl (by kernel_rfl) (by kernel_rfl) (fun _ _ _ h => h) (⟨z9, z12, z13⟩) (Or.inl ⟨by rfl, ?ym6⟩) ?rm6
      case ym6 => intro w hSw; obtain ⟨hw9, hw12, hw13⟩ := hSw; (try dsimp only at hSw); go_simp; try rfl
      case' rm6 => try simp only [List.getElem_toArray, List.getElem_cons_succ, List.getElem_cons_zero, Act.put, List.setIfInBounds_toArray, List.set_cons_zero, List.set_cons_succ]
      refine free_take 7 (v := undef) rfl (by kernel_rfl) (by kernel_rfl) (fun _ _ _ h => h) (⟨z9, z12, z13⟩) (Or.inr ⟨by rfl, rfl⟩) ?rm7
      case' rm7 => try simp only [List.getElem_toArray, List.getElem_cons_succ, List.getElem_cons_zero, Act.put, List.setIfInBounds_toArray, List.set_cons_zero, List.set_cons_succ]
      refine free_take 8 (v := undef) rfl (by kernel_rfl) (by kernel_rfl) (fun _ _ _ h => h) (⟨z9, z12, z13⟩) (Or.inr ⟨by rfl, rfl⟩) ?rm8
      case' rm8 => try simp only [List.getElem_toArray, List.getElem_cons_succ, List.getElem_cons_zero, Act.put, List.setIfInBounds_toArray, List.set_cons_zero, List.set_cons_succ]
      refine free_take 9 (v := undef) rfl (by kernel_rfl) (by kernel_rfl) (fun _ _ _ h => h) (⟨z9, z12, z13⟩) (Or.inr ⟨by rfl, rfl⟩) ?rm9
      case' rm9 => try simp only [List.getElem_toArray, List.getElem_cons_succ, List.getElem_cons_zero, Act.put, List.setIfInBounds_toArray, List.set_cons_zero, List.set_cons_succ]
      refine free_take 10 (v := undef) rfl (by kernel_rfl) (by kernel_rfl) (fun _ _ _ h => h) (⟨z9, z12, z13⟩) (Or.inr ⟨by rfl, rfl⟩) ?rm10
      case' rm10 => try simp only [List.getElem_toArray, List.getElem_cons_succ, List.getElem_cons_zero, Act.put, List.setIfInBounds_toArray, List.set_cons_zero, List.set_cons_succ]
      refine free_take 11 (v := undef) rfl (by kernel_rfl) (by kernel_rfl) (fun _ _ _ h => h) (⟨z9, z12, z13⟩) (Or.inr ⟨by rfl, rfl⟩) ?rm11
      case' rm11 => try simp only [List.getElem_toArray, List.getElem_cons_succ, List.getElem_cons_zero, Act.put, List.setIfInBounds_toArray, List.set_cons_zero, List.set_cons_succ]
      refine free_take 12 (v := undef) rfl (by kernel_rfl) (by kernel_rfl) (fun _ _ _ h => h) (⟨z9, z12, z13⟩) (Or.inr ⟨by rfl, rfl⟩) ?rm12
      case' rm12 => try simp only [List.getElem_toArray, List.getElem_cons_succ, List.getElem_cons_zero, Act.put, List.setIfInBounds_toArray, List.set_cons_zero, List.set_cons_succ]
      refine free_take 13 (v := undef) rfl (by kernel_rfl) (by kernel_rfl) (fun _ _ _ h => h) (⟨z9, z12, z13⟩) (Or.inr ⟨by rfl, rfl⟩) ?rm13
      case' rm13 => try simp only [List.getElem_toArray, List.getElem_cons_succ, List.getElem_cons_zero, Act.put, List.setIfInBounds_toArray, List.set_cons_zero, List.set_cons_succ]
      refine free_take 14 (v := undef) rfl (by kernel_rfl) (by kernel_rfl) (fun _ _ _ h => h) (⟨z9, z12, z13⟩) (Or.inr ⟨by rfl, rfl⟩) ?rm14
      case' rm14 => try simp only [List.getElem_toArray, List.getElem_cons_succ, List.getElem_cons_zero, Act.put, List.setIfInBounds_toArray, List.set_cons_zero, List.set_cons_succ]
      refine free_take 15 (v := undef) rfl (by kernel_rfl) (by kernel_rfl) (fun _ _ _ h => h) (⟨z9, z12, z13⟩) (Or.inr ⟨by rfl, rfl⟩) ?rm15
      case' rm15 => try simp only [List.getElem_toArray, List.getElem_cons_succ, List.getElem_cons_zero, Act.put, List.setIfInBounds_toArray, List.set_cons_zero, List.set_cons_succ]
      refine free_take 16 (v := undef) rfl (by kernel_rfl) (by kernel_rfl) (fun _ _ _ h => h) (⟨z9, z12, z13⟩) (Or.inr ⟨by rfl, rfl⟩) ?rm16
      case' rm16 => try simp only [List.getElem_toArray, List.getElem_cons_succ, List.getElem_cons_zero, Act.put, List.setIfInBounds_toArray, List.set_cons_zero, List.set_cons_succ]
      refine free_take 17 (v := undef) rfl (by kernel_rfl) (by kernel_rfl) (fun _ _ _ h => h) (⟨z9, z12, z13⟩) (Or.inr ⟨by rfl, rfl⟩) ?rm17
      case' rm17 => try simp only [List.getElem_toArray, List.getElem_cons_succ, List.getElem_cons_zero, Act.put, List.setIfInBounds_toArray, List.set_cons_zero, List.set_cons_succ]
      refine free_take 18 (v := ?vm18) rfl (by kernel_rfl) (by kernel_rfl) (fun _ _ _ h => h) (⟨z9, z12, z13⟩) (Or.inl ⟨by rfl, ?ym18⟩) ?rm18
      case ym18 => intro w hSw; obtain ⟨hw9, hw12, hw13⟩ := hSw; (try dsimp only at hSw); go_simp; try rfl
      case' rm18 => try simp only [List.getElem_toArray, List.getElem_cons_succ, List.getElem_cons_zero, Act.put, List.setIfInBounds_toArray, List.set_cons_zero, List.set_cons_succ]
      refine free_take 19 (v := ?vm19) rfl (by kernel_rfl) (by kernel_rfl) (fun _ _ _ h => h) (⟨z9, z12, z13⟩) (Or.inl ⟨by rfl, ?ym19⟩) ?rm19
      case ym19 => intro w hSw; obtain ⟨hw9, hw12, hw13⟩ := hSw; (try dsimp only at hSw); go_simp; try rfl
      case' rm19 => try simp only [List.getElem_toArray, List.getElem_cons_succ, List.getElem_cons_zero, Act.put, List.setIfInBounds_toArray, List.set_cons_zero, List.set_cons_succ]
      refine free_take 20 (v := undef) rfl (by kernel_rfl) (by kernel_rfl) (fun _ _ _ h => h) (⟨z9, z12, z13⟩) (Or.inr ⟨by rfl, rfl⟩) ?rm20
      case' rm20 => try simp only [List.getElem_toArray, List.getElem_cons_succ, List.getElem_cons_zero, Act.put, List.setIfInBounds_toArray, List.set_cons_zero, List.set_cons_succ]
      refine free_take 21 (v := undef) rfl (by kernel_rfl) (by kernel_rfl) (fun _ _ _ h => h) (⟨z9, z12, z13⟩) (Or.inr ⟨by rfl, rfl⟩) ?rm21
      case' rm21 => try simp only [List.getElem_toArray, List.getElem_cons_succ, List.getElem_cons_zero, Act.put, List.setIfInBounds_toArray, List.set_cons_zero, List.set_cons_succ]
      refine free_take 22 (v := ?vm22) rfl (by kernel_rfl) (by kernel_rfl) (fun _ _ _ h => h) (⟨z9, z12, z13⟩) (Or.inl ⟨by rfl, ?ym22⟩) ?rm22
      case ym22 => intro w hSw; obtain ⟨hw9, hw12, hw13⟩ := hSw; (try dsimp only at hSw); go_simp; try rfl
      case' rm22 => try simp only [List.getElem_toArray, List.getElem_cons_succ, List.getElem_cons_zero, Act.put, List.setIfInBounds_toArray, List.set_cons_zero, List.set_cons_succ]
      refine free_take 23 (v := ?vm23) rfl (by kernel_rfl) (by kernel_rfl) (fun _ _ _ h => h) (⟨z9, z12, z13⟩) (Or.inl ⟨by rfl, ?ym23⟩) ?rm23
      case ym23 => intro w hSw; obtain ⟨hw9, hw12, hw13⟩ := hSw; (try dsimp only at hSw); go_simp; try rfl
      case' rm23 => try simp only [List.getElem_toArray, List.getElem_cons_succ, List.getElem_cons_zero, Act.put, List.setIfInBounds_toArray, List.set_cons_zero, List.set_cons_succ]
      refine free_end (by kernel_rfl) ?_
      go_wp2_with fail
      go_ret
      exact DoT.of HR.out (HE.out) ⟨F, fn, fc, A, an, ac, none, 0, 0, [], rfl, bq, hM, hB⟩
    have s0a : (stage == 0) = false := by rw [beq_eq_false_iff_ne]; exact s0
    by_cases s3 : stage = 3
    rotate_left
    ·
      have s3a : (stage == 3) = false := by rw [beq_eq_false_iff_ne]; exact s3
      have HE := Lib.hid (waitT_f (x := (⟨id, known, name, size, ended, last, sum, have_, file, stage, timer, patience, tries, limit⟩ : Tk)) hA0 (fun h => s3 h.1))
      clear hA0 s0 s3
      go_upto_region 7 with fail
      clear x9 x4
      trace "Rn"
      have z9 : w.drew.cell? ⟨q, 9, none⟩ = some (.int .i64 stage) := bq.cell' (i := 9) rfl
      have z12 : w.drew.cell? ⟨q, 12, none⟩ = some (.int .i64 tries) := bq.cell' (i := 12) rfl
      have z13 : w.drew.cell? ⟨q, 13, none⟩ = some (.int .i64 limit) := bq.cell' (i := 13) rfl
      refine freeRegion (fun v => v.cell? ⟨q, 9, none⟩ = some (.int .i64 stage) ∧ v.cell? ⟨q, 12, none⟩ = some (.int .i64 tries) ∧ v.cell? ⟨q, 13, none⟩ = some (.int .i64 limit)) (by kernel_rfl) (by kernel_rfl) ⟨z9, z12, z13⟩ (fun hSS => ?_)
      clear hSS
      replace hM := hM.drewQ
      replace hB := hB.drew
      replace bq := bq.drew
      generalize w.drew = V1 at *
      refine free_take 0 (v := ?vn0) rfl (by kernel_rfl) (by kernel_rfl) (fun _ _ _ h => h) (⟨z9, z12, z13⟩) (Or.inl ⟨by rfl, ?yn0⟩) ?rn0
      case yn0 => intro w hSw; obtain ⟨hw9, hw12, hw13⟩ := hSw; (try dsimp only at hSw); go_simp; try rfl
      case' rn0 => try simp only [List.getElem_toArray, List.getElem_cons_succ, List.getElem_cons_zero, Act.put, List.setIfInBounds_toArray, List.set_cons_zero, List.set_cons_succ]
      refine free_take 1 (v := ?vn1) rfl (by kernel_rfl) (by kernel_rfl) (fun _ _ _ h => h) (⟨z9, z12, z13⟩) (Or.inl ⟨by rfl, ?yn1⟩) ?rn1
      case yn1 => intro w hSw; obtain ⟨hw9, hw12, hw13⟩ := hSw; (try dsimp only at hSw); go_simp; try rfl
      case' rn1 => try simp only [List.getElem_toArray, List.getElem_cons_succ, List.getElem_cons_zero, Act.put, List.setIfInBounds_toArray, List.set_cons_zero, List.set_cons_succ]
      refine free_take 2 (v := ?vn2) rfl (by kernel_rfl) (by kernel_rfl) (fun _ _ _ h => h) (⟨z9, z12, z13⟩) (Or.inl ⟨by rfl, ?yn2⟩) ?rn2
      case yn2 => intro w hSw; obtain ⟨hw9, hw12, hw13⟩ := hSw; (try dsimp only at hSw); go_simp; try rfl
      case' rn2 => try simp only [List.getElem_toArray, List.getElem_cons_succ, List.getElem_cons_zero, Act.put, List.setIfInBounds_toArray, List.set_cons_zero, List.set_cons_succ]
      refine free_take 3 (v := ?vn3) rfl (by kernel_rfl) (by kernel_rfl) (fun _ _ _ h => h) (⟨z9, z12, z13⟩) (Or.inl ⟨by rfl, ?yn3⟩) ?rn3
      case yn3 => intro w hSw; obtain ⟨hw9, hw12, hw13⟩ := hSw; (try dsimp only at hSw); go_simp; try rfl
      case' rn3 => try simp only [List.getElem_toArray, List.getElem_cons_succ, List.getElem_cons_zero, Act.put, List.setIfInBounds_toArray, List.set_cons_zero, List.set_cons_succ]
      refine free_take 4 (v := ?vn4) rfl (by kernel_rfl) (by kernel_rfl) (fun _ _ _ h => h) (⟨z9, z12, z13⟩) (Or.inl ⟨by rfl, ?yn4⟩) ?rn4
      case yn4 => intro w hSw; obtain ⟨hw9, hw12, hw13⟩ := hSw; (try dsimp only at hSw); go_simp; try rfl
      case' rn4 => try simp only [List.getElem_toArray, List.getElem_cons_succ, List.getElem_cons_zero, Act.put, List.setIfInBounds_toArray, List.set_cons_zero, List.set_cons_succ]
      refine free_take 5 (v := ?vn5) rfl (by kernel_rfl) (by kernel_rfl) (fun _ _ _ h => h) (⟨z9, z12, z13⟩) (Or.inl ⟨by rfl, ?yn5⟩) ?rn5
      case yn5 => intro w hSw; obtain ⟨hw9, hw12, hw13⟩ := hSw; (try dsimp only at hSw); go_simp; try rfl
      case' rn5 => try simp only [List.getElem_toArray, List.getElem_cons_succ, List.getElem_cons_zero, Act.put, List.setIfInBounds_toArray, List.set_cons_zero, List.set_cons_succ]
      refine free_take 6 (v := ?vn6) rfl (by kernel_rfl) (by kernel_rfl) (fun _ _ _ h => h) (⟨z9, z12, z13⟩) (Or.inl ⟨by rfl, ?yn6⟩) ?rn6
      case yn6 => intro w hSw; obtain ⟨hw9, hw12, hw13⟩ := hSw; (try dsimp only at hSw); go_simp; try rfl
      case' rn6 => try simp only [List.getElem_toArray, List.getElem_cons_succ, List.getElem_cons_zero, Act.put, List.setIfInBounds_toArray, List.set_cons_zero, List.set_cons_succ]
      refine free_take 7 (v := undef) rfl (by kernel_rfl) (by kernel_rfl) (fun _ _ _ h => h) (⟨z9, z12, z13⟩) (Or.inr ⟨by rfl, rfl⟩) ?rn7
      case' rn7 => try simp only [List.getElem_toArray, List.getElem_cons_succ, List.getElem_cons_zero, Act.put, List.setIfInBounds_toArray, List.set_cons_zero, List.set_cons_succ]
      refine free_take 8 (v := undef) rfl (by kernel_rfl) (by kernel_rfl) (fun _ _ _ h => h) (⟨z9, z12, z13⟩) (Or.inr ⟨by rfl, rfl⟩) ?rn8
      case' rn8 => try simp only [List.getElem_toArray, List.getElem_cons_succ, List.getElem_cons_zero, Act.put, List.setIfInBounds_toArray, List.set_cons_zero, List.set_cons_succ]
      refine free_take 9 (v := undef) rfl (by kernel_rfl) (by kernel_rfl) (fun _ _ _ h => h) (⟨z9, z12, z13⟩) (Or.inr ⟨by rfl, rfl⟩) ?rn9
      case' rn9 => try simp only [List.getElem_toArray, List.getElem_cons_succ, List.getElem_cons_zero, Act.put, List.setIfInBounds_toArray, List.set_cons_zero, List.set_cons_succ]
      refine free_take 10 (v := undef) rfl (by kernel_rfl) (by kernel_rfl) (fun _ _ _ h => h) (⟨z9, z12, z13⟩) (Or.inr ⟨by rfl, rfl⟩) ?rn10
      case' rn10 => try simp only [List.getElem_toArray, List.getElem_cons_succ, List.getElem_cons_zero, Act.put, List.setIfInBounds_toArray, List.set_cons_zero, List.set_cons_succ]
      refine free_take 11 (v := undef) rfl (by kernel_rfl) (by kernel_rfl) (fun _ _ _ h => h) (⟨z9, z12, z13⟩) (Or.inr ⟨by rfl, rfl⟩) ?rn11
      case' rn11 => try simp only [List.getElem_toArray, List.getElem_cons_succ, List.getElem_cons_zero, Act.put, List.setIfInBounds_toArray, List.set_cons_zero, List.set_cons_succ]
      refine free_take 12 (v := undef) rfl (by kernel_rfl) (by kernel_rfl) (fun _ _ _ h => h) (⟨z9, z12, z13⟩) (Or.inr ⟨by rfl, rfl⟩) ?rn12
      case' rn12 => try simp only [List.getElem_toArray, List.getElem_cons_succ, List.getElem_cons_zero, Act.put, List.setIfInBounds_toArray, List.set_cons_zero, List.set_cons_succ]
      refine free_take 13 (v := undef) rfl (by kernel_rfl) (by kernel_rfl) (fun _ _ _ h => h) (⟨z9, z12, z13⟩) (Or.inr ⟨by rfl, rfl⟩) ?rn13
      case' rn13 => try simp only [List.getElem_toArray, List.getElem_cons_succ, List.getElem_cons_zero, Act.put, List.setIfInBounds_toArray, List.set_cons_zero, List.set_cons_succ]
      refine free_take 14 (v := undef) rfl (by kernel_rfl) (by kernel_rfl) (fun _ _ _ h => h) (⟨z9, z12, z13⟩) (Or.inr ⟨by rfl, rfl⟩) ?rn14
      case' rn14 => try simp only [List.getElem_toArray, List.getElem_cons_succ, List.getElem_cons_zero, Act.put, List.setIfInBounds_toArray, List.set_cons_zero, List.set_cons_succ]
      refine free_take 15 (v := undef) rfl (by kernel_rfl) (by kernel_rfl) (fun _ _ _ h => h) (⟨z9, z12, z13⟩) (Or.inr ⟨by rfl, rfl⟩) ?rn15
      case' rn15 => try simp only [List.getElem_toArray, List.getElem_cons_succ, List.getElem_cons_zero, Act.put, List.setIfInBounds_toArray, List.set_cons_zero, List.set_cons_succ]
      refine free_take 16 (v := undef) rfl (by kernel_rfl) (by kernel_rfl) (fun _ _ _ h => h) (⟨z9, z12, z13⟩) (Or.inr ⟨by rfl, rfl⟩) ?rn16
      case' rn16 => try simp only [List.getElem_toArray, List.getElem_cons_succ, List.getElem_cons_zero, Act.put, List.setIfInBounds_toArray, List.set_cons_zero, List.set_cons_succ]
      refine free_take 17 (v := undef) rfl (by kernel_rfl) (by kernel_rfl) (fun _ _ _ h => h) (⟨z9, z12, z13⟩) (Or.inr ⟨by rfl, rfl⟩) ?rn17
      case' rn17 => try simp only [List.getElem_toArray, List.getElem_cons_succ, List.getElem_cons_zero, Act.put, List.setIfInBounds_toArray, List.set_cons_zero, List.set_cons_succ]
      refine free_take 18 (v := ?vn18) rfl (by kernel_rfl) (by kernel_rfl) (fun _ _ _ h => h) (⟨z9, z12, z13⟩) (Or.inl ⟨by rfl, ?yn18⟩) ?rn18
      case yn18 => intro w hSw; obtain ⟨hw9, hw12, hw13⟩ := hSw; (try dsimp only at hSw); go_simp; try rfl
      case' rn18 => try simp only [List.getElem_toArray, List.getElem_cons_succ, List.getElem_cons_zero, Act.put, List.setIfInBounds_toArray, List.set_cons_zero, List.set_cons_succ]
      refine free_take 19 (v := ?vn19) rfl (by kernel_rfl) (by kernel_rfl) (fun _ _ _ h => h) (⟨z9, z12, z13⟩) (Or.inl ⟨by rfl, ?yn19⟩) ?rn19
      case yn19 => intro w hSw; obtain ⟨hw9, hw12, hw13⟩ := hSw; (try dsimp only at hSw); go_simp; try rfl
      case' rn19 => try simp only [List.getElem_toArray, List.getElem_cons_succ, List.getElem_cons_zero, Act.put, List.setIfInBounds_toArray, List.set_cons_zero, List.set_cons_succ]
      refine free_take 20 (v := undef) rfl (by kernel_rfl) (by kernel_rfl) (fun _ _ _ h => h) (⟨z9, z12, z13⟩) (Or.inr ⟨by rfl, rfl⟩) ?rn20
      case' rn20 => try simp only [List.getElem_toArray, List.getElem_cons_succ, List.getElem_cons_zero, Act.put, List.setIfInBounds_toArray, List.set_cons_zero, List.set_cons_succ]
      refine free_take 21 (v := undef) rfl (by kernel_rfl) (by kernel_rfl) (fun _ _ _ h => h) (⟨z9, z12, z13⟩) (Or.inr ⟨by rfl, rfl⟩) ?rn21
      case' rn21 => try simp only [List.getElem_toArray, List.getElem_cons_succ, List.getElem_cons_zero, Act.put, List.setIfInBounds_toArray, List.set_cons_zero, List.set_cons_succ]
      refine free_take 22 (v := ?vn22) rfl (by kernel_rfl) (by kernel_rfl) (fun _ _ _ h => h) (⟨z9, z12, z13⟩) (Or.inl ⟨by rfl, ?yn22⟩) ?rn22
      case yn22 => intro w hSw; obtain ⟨hw9, hw12, hw13⟩ := hSw; (try dsimp only at hSw); go_simp; try rfl
      case' rn22 => try simp only [List.getElem_toArray, List.getElem_cons_succ, List.getElem_cons_zero, Act.put, List.setIfInBounds_toArray, List.set_cons_zero, List.set_cons_succ]
      refine free_take 23 (v := ?vn23) rfl (by kernel_rfl) (by kernel_rfl) (fun _ _ _ h => h) (⟨z9, z12, z13⟩) (Or.inl ⟨by rfl, ?yn23⟩) ?rn23
      case yn23 => intro w hSw; obtain ⟨hw9, hw12, hw13⟩ := hSw; (try dsimp only at hSw); go_simp; try rfl
      case' rn23 => try simp only [List.getElem_toArray, List.getElem_cons_succ, List.getElem_cons_zero, Act.put, List.setIfInBounds_toArray, List.set_cons_zero, List.set_cons_succ]
      refine free_end (by kernel_rfl) ?_
      go_wp2_with fail
      go_ret
      exact DoT.of HR.out (HE.out) ⟨F, fn, fc, A, an, ac, none, 0, 0, [], rfl, bq, hM, hB⟩
    subst s3
    clear s0 s0a
    by_cases hlt : tries < limit
    rotate_left
    ·
      have d1 : decide (tries < limit) = false := decide_eq_false hlt
      have HE := Lib.hid (waitT_f (x := (⟨id, known, name, size, ended, last, sum, have_, file, 3, timer, patience, tries, limit⟩ : Tk)) hA0 (fun h => hlt h.2))
      clear hA0 hlt
      go_upto_region 7 with fail
      clear x9 x4
      trace "Ro"
      have z9 : w.drew.cell? ⟨q, 9, none⟩ = some (.int .i64 3) := bq.cell' (i := 9) rfl
      have z12 : w.drew.cell? ⟨q, 12, none⟩ = some (.int .i64 tries) := bq.cell' (i := 12) rfl
      have z13 : w.drew.cell? ⟨q, 13, none⟩ = some (.int .i64 limit) := bq.cell' (i := 13) rfl
      refine freeRegion (fun v => v.cell? ⟨q, 9, none⟩ = some (.int .i64 3) ∧ v.cell? ⟨q, 12, none⟩ = some (.int .i64 tries) ∧ v.cell? ⟨q, 13, none⟩ = some (.int .i64 limit)) (by kernel_rfl) (by kernel_rfl) ⟨z9, z12, z13⟩ (fun hSS => ?_)
      clear hSS
      replace hM := hM.drewQ
      replace hB := hB.drew
      replace bq := bq.drew
      generalize w.drew = V1 at *
      refine free_take 0 (v := ?vo0) rfl (by kernel_rfl) (by kernel_rfl) (fun _ _ _ h => h) (⟨z9, z12, z13⟩) (Or.inl ⟨by rfl, ?yo0⟩) ?ro0
      case yo0 => intro w hSw; obtain ⟨hw9, hw12, hw13⟩ := hSw; (try dsimp only at hSw); go_simp; try rfl
      case' ro0 => try simp only [List.getElem_toArray, List.getElem_cons_succ, List.getElem_cons_zero, Act.put, List.setIfInBounds_toArray, List.set_cons_zero, List.set_cons_succ]
      refine free_take 1 (v := ?vo1) rfl (by kernel_rfl) (by kernel_rfl) (fun _ _ _ h => h) (⟨z9, z12, z13⟩) (Or.inl ⟨by rfl, ?yo1⟩) ?ro1
      case yo1 => intro w hSw; obtain ⟨hw9, hw12, hw13⟩ := hSw; (try dsimp only at hSw); go_simp; try rfl
      case' ro1 => try simp only [List.getElem_toArray, List.getElem_cons_succ, List.getElem_cons_zero, Act.put, List.setIfInBounds_toArray, List.set_cons_zero, List.set_cons_succ]
      refine free_take 2 (v := ?vo2) rfl (by kernel_rfl) (by kernel_rfl) (fun _ _ _ h => h) (⟨z9, z12, z13⟩) (Or.inl ⟨by rfl, ?yo2⟩) ?ro2
      case yo2 => intro w hSw; obtain ⟨hw9, hw12, hw13⟩ := hSw; (try dsimp only at hSw); go_simp; try rfl
      case' ro2 => try simp only [List.getElem_toArray, List.getElem_cons_succ, List.getElem_cons_zero, Act.put, List.setIfInBounds_toArray, List.set_cons_zero, List.set_cons_succ]
      refine free_take 3 (v := ?vo3) rfl (by kernel_rfl) (by kernel_rfl) (fun _ _ _ h => h) (⟨z9, z12, z13⟩) (Or.inl ⟨by rfl, ?yo3⟩) ?ro3
      case yo3 => intro w hSw; obtain ⟨hw9, hw12, hw13⟩ := hSw; (try dsimp only at hSw); go_simp; try rfl
      case' ro3 => try simp only [List.getElem_toArray, List.getElem_cons_succ, List.getElem_cons_zero, Act.put, List.setIfInBounds_toArray, List.set_cons_zero, List.set_cons_succ]
      refine free_take 4 (v := ?vo4) rfl (by kernel_rfl) (by kernel_rfl) (fun _ _ _ h => h) (⟨z9, z12, z13⟩) (Or.inl ⟨by rfl, ?yo4⟩) ?ro4
      case yo4 => intro w hSw; obtain ⟨hw9, hw12, hw13⟩ := hSw; (try dsimp only at hSw); go_simp; try rfl
      case' ro4 => try simp only [List.getElem_toArray, List.getElem_cons_succ, List.getElem_cons_zero, Act.put, List.setIfInBounds_toArray, List.set_cons_zero, List.set_cons_succ]
      refine free_take 5 (v := ?vo5) rfl (by kernel_rfl) (by kernel_rfl) (fun _ _ _ h => h) (⟨z9, z12, z13⟩) (Or.inl ⟨by rfl, ?yo5⟩) ?ro5
      case yo5 => intro w hSw; obtain ⟨hw9, hw12, hw13⟩ := hSw; (try dsimp only at hSw); go_simp; try rfl
      case' ro5 => try simp only [List.getElem_toArray, List.getElem_cons_succ, List.getElem_cons_zero, Act.put, List.setIfInBounds_toArray, List.set_cons_zero, List.set_cons_succ]
      refine free_take 6 (v := ?vo6) rfl (by kernel_rfl) (by kernel_rfl) (fun _ _ _ h => h) (⟨z9, z12, z13⟩) (Or.inl ⟨by rfl, ?yo6⟩) ?ro6
      case yo6 => intro w hSw; obtain ⟨hw9, hw12, hw13⟩ := hSw; (try dsimp only at hSw); go_simp; try rfl
      case' ro6 => try simp only [List.getElem_toArray, List.getElem_cons_succ, List.getElem_cons_zero, Act.put, List.setIfInBounds_toArray, List.set_cons_zero, List.set_cons_succ]
      refine free_take 7 (v := ?vo7) rfl (by kernel_rfl) (by kernel_rfl) (fun _ _ _ h => h) (⟨z9, z12, z13⟩) (Or.inl ⟨by rfl, ?yo7⟩) ?ro7
      case yo7 => intro w hSw; obtain ⟨hw9, hw12, hw13⟩ := hSw; (try dsimp only at hSw); go_simp; try rfl
      case' ro7 => try simp only [List.getElem_toArray, List.getElem_cons_succ, List.getElem_cons_zero, Act.put, List.setIfInBounds_toArray, List.set_cons_zero, List.set_cons_succ]
      refine free_take 8 (v := ?vo8) rfl (by kernel_rfl) (by kernel_rfl) (fun _ _ _ h => h) (⟨z9, z12, z13⟩) (Or.inl ⟨by rfl, ?yo8⟩) ?ro8
      case yo8 => intro w hSw; obtain ⟨hw9, hw12, hw13⟩ := hSw; (try dsimp only at hSw); go_simp; try rfl
      case' ro8 => try simp only [List.getElem_toArray, List.getElem_cons_succ, List.getElem_cons_zero, Act.put, List.setIfInBounds_toArray, List.set_cons_zero, List.set_cons_succ]
      refine free_take 9 (v := ?vo9) rfl (by kernel_rfl) (by kernel_rfl) (fun _ _ _ h => h) (⟨z9, z12, z13⟩) (Or.inl ⟨by rfl, ?yo9⟩) ?ro9
      case yo9 => intro w hSw; obtain ⟨hw9, hw12, hw13⟩ := hSw; (try dsimp only at hSw); go_simp; try rfl
      case' ro9 => try simp only [List.getElem_toArray, List.getElem_cons_succ, List.getElem_cons_zero, Act.put, List.setIfInBounds_toArray, List.set_cons_zero, List.set_cons_succ]
      refine free_take 10 (v := ?vo10) rfl (by kernel_rfl) (by kernel_rfl) (fun _ _ _ h => h) (⟨z9, z12, z13⟩) (Or.inl ⟨by rfl, ?yo10⟩) ?ro10
      case yo10 => intro w hSw; obtain ⟨hw9, hw12, hw13⟩ := hSw; (try dsimp only at hSw); go_simp; try rfl
      case' ro10 => try simp only [List.getElem_toArray, List.getElem_cons_succ, List.getElem_cons_zero, Act.put, List.setIfInBounds_toArray, List.set_cons_zero, List.set_cons_succ]
      refine free_take 11 (v := ?vo11) rfl (by kernel_rfl) (by kernel_rfl) (fun _ _ _ h => h) (⟨z9, z12, z13⟩) (Or.inl ⟨by rfl, ?yo11⟩) ?ro11
      case yo11 => intro w hSw; obtain ⟨hw9, hw12, hw13⟩ := hSw; (try dsimp only at hSw); go_simp; try rfl
      case' ro11 => try simp only [List.getElem_toArray, List.getElem_cons_succ, List.getElem_cons_zero, Act.put, List.setIfInBounds_toArray, List.set_cons_zero, List.set_cons_succ]
      refine free_take 12 (v := ?vo12) rfl (by kernel_rfl) (by kernel_rfl) (fun _ _ _ h => h) (⟨z9, z12, z13⟩) (Or.inl ⟨by rfl, ?yo12⟩) ?ro12
      case yo12 => intro w hSw; obtain ⟨hw9, hw12, hw13⟩ := hSw; (try dsimp only at hSw); go_simp; try rfl
      case' ro12 => try simp only [List.getElem_toArray, List.getElem_cons_succ, List.getElem_cons_zero, Act.put, List.setIfInBounds_toArray, List.set_cons_zero, List.set_cons_succ]
      refine free_take 13 (v := ?vo13) rfl (by kernel_rfl) (by kernel_rfl) (fun _ _ _ h => h) (⟨z9, z12, z13⟩) (Or.inl ⟨by rfl, ?yo13⟩) ?ro13
      case yo13 => intro w hSw; obtain ⟨hw9, hw12, hw13⟩ := hSw; (try dsimp only at hSw); go_simp; try rfl
      case' ro13 => try simp only [List.getElem_toArray, List.getElem_cons_succ, List.getElem_cons_zero, Act.put, List.setIfInBounds_toArray, List.set_cons_zero, List.set_cons_succ]
      refine free_take 14 (v := ?vo14) rfl (by kernel_rfl) (by kernel_rfl) (fun _ _ _ h => h) (⟨z9, z12, z13⟩) (Or.inl ⟨by rfl, ?yo14⟩) ?ro14
      case yo14 => intro w hSw; obtain ⟨hw9, hw12, hw13⟩ := hSw; (try dsimp only at hSw); go_simp; try rfl
      case' ro14 => try simp only [List.getElem_toArray, List.getElem_cons_succ, List.getElem_cons_zero, Act.put, List.setIfInBounds_toArray, List.set_cons_zero, List.set_cons_succ]
      refine free_take 15 (v := ?vo15) rfl (by kernel_rfl) (by kernel_rfl) (fun _ _ _ h => h) (⟨z9, z12, z13⟩) (Or.inl ⟨by rfl, ?yo15⟩) ?ro15
      case yo15 => intro w hSw; obtain ⟨hw9, hw12, hw13⟩ := hSw; (try dsimp only at hSw); go_simp; try rfl
      case' ro15 => try simp only [List.getElem_toArray, List.getElem_cons_succ, List.getElem_cons_zero, Act.put, List.setIfInBounds_toArray, List.set_cons_zero, List.set_cons_succ]
      refine free_take 16 (v := ?vo16) rfl (by kernel_rfl) (by kernel_rfl) (fun _ _ _ h => h) (⟨z9, z12, z13⟩) (Or.inl ⟨by rfl, ?yo16⟩) ?ro16
      case yo16 => intro w hSw; obtain ⟨hw9, hw12, hw13⟩ := hSw; (try dsimp only at hSw); go_simp; try rfl
      case' ro16 => try simp only [List.getElem_toArray, List.getElem_cons_succ, List.getElem_cons_zero, Act.put, List.setIfInBounds_toArray, List.set_cons_zero, List.set_cons_succ]
      refine free_take 17 (v := ?vo17) rfl (by kernel_rfl) (by kernel_rfl) (fun _ _ _ h => h) (⟨z9, z12, z13⟩) (Or.inl ⟨by rfl, ?yo17⟩) ?ro17
      case yo17 => intro w hSw; obtain ⟨hw9, hw12, hw13⟩ := hSw; (try dsimp only at hSw); go_simp; try rfl
      case' ro17 => try simp only [List.getElem_toArray, List.getElem_cons_succ, List.getElem_cons_zero, Act.put, List.setIfInBounds_toArray, List.set_cons_zero, List.set_cons_succ]
      refine free_take 18 (v := ?vo18) rfl (by kernel_rfl) (by kernel_rfl) (fun _ _ _ h => h) (⟨z9, z12, z13⟩) (Or.inl ⟨by rfl, ?yo18⟩) ?ro18
      case yo18 => intro w hSw; obtain ⟨hw9, hw12, hw13⟩ := hSw; (try dsimp only at hSw); go_simp; try rfl
      case' ro18 => try simp only [List.getElem_toArray, List.getElem_cons_succ, List.getElem_cons_zero, Act.put, List.setIfInBounds_toArray, List.set_cons_zero, List.set_cons_succ]
      refine free_take 19 (v := ?vo19) rfl (by kernel_rfl) (by kernel_rfl) (fun _ _ _ h => h) (⟨z9, z12, z13⟩) (Or.inl ⟨by rfl, ?yo19⟩) ?ro19
      case yo19 => intro w hSw; obtain ⟨hw9, hw12, hw13⟩ := hSw; (try dsimp only at hSw); go_simp; try rfl
      case' ro19 => try simp only [List.getElem_toArray, List.getElem_cons_succ, List.getElem_cons_zero, Act.put, List.setIfInBounds_toArray, List.set_cons_zero, List.set_cons_succ]
      refine free_take 20 (v := undef) rfl (by kernel_rfl) (by kernel_rfl) (fun _ _ _ h => h) (⟨z9, z12, z13⟩) (Or.inr ⟨by rfl, rfl⟩) ?ro20
      case' ro20 => try simp only [List.getElem_toArray, List.getElem_cons_succ, List.getElem_cons_zero, Act.put, List.setIfInBounds_toArray, List.set_cons_zero, List.set_cons_succ]
      refine free_take 21 (v := undef) rfl (by kernel_rfl) (by kernel_rfl) (fun _ _ _ h => h) (⟨z9, z12, z13⟩) (Or.inr ⟨by rfl, rfl⟩) ?ro21
      case' ro21 => try simp only [List.getElem_toArray, List.getElem_cons_succ, List.getElem_cons_zero, Act.put, List.setIfInBounds_toArray, List.set_cons_zero, List.set_cons_succ]
      refine free_take 22 (v := ?vo22) rfl (by kernel_rfl) (by kernel_rfl) (fun _ _ _ h => h) (⟨z9, z12, z13⟩) (Or.inl ⟨by rfl, ?yo22⟩) ?ro22
      case yo22 => intro w hSw; obtain ⟨hw9, hw12, hw13⟩ := hSw; (try dsimp only at hSw); go_simp; try rfl
      case' ro22 => try simp only [List.getElem_toArray, List.getElem_cons_succ, List.getElem_cons_zero, Act.put, List.setIfInBounds_toArray, List.set_cons_zero, List.set_cons_succ]
      refine free_take 23 (v := ?vo23) rfl (by kernel_rfl) (by kernel_rfl) (fun _ _ _ h => h) (⟨z9, z12, z13⟩) (Or.inl ⟨by rfl, ?yo23⟩) ?ro23
      case yo23 => intro w hSw; obtain ⟨hw9, hw12, hw13⟩ := hSw; (try dsimp only at hSw); go_simp; try rfl
      case' ro23 => try simp only [List.getElem_toArray, List.getElem_cons_succ, List.getElem_cons_zero, Act.put, List.setIfInBounds_toArray, List.set_cons_zero, List.set_cons_succ]
      refine free_end (by kernel_rfl) ?_
      go_wp2_with fail
      go_ret
      exact DoT.of HR.out (HE.out) ⟨F, fn, fc, A, an, ac, none, 0, 0, [], rfl, bq, hM, hB⟩
    have d1 : decide (tries < limit) = true := decide_eq_true hlt
    have HD := Lib.hid (fun h => waitT_d (x := (⟨id, known, name, size, ended, last, sum, have_, file, 3, timer, patience, tries, limit⟩ : Tk)) hA0 ⟨rfl, hlt⟩ h)
    have HE := Lib.hid (fun h => waitT_e (x := (⟨id, known, name, size, ended, last, sum, have_, file, 3, timer, patience, tries, limit⟩ : Tk)) hA0 ⟨rfl, hlt⟩ h)
    clear hA0 hlt
    go_upto_region 7 with fail
    clear x9 x4
    trace "RP"
    have z9 : w.drew.cell? ⟨q, 9, none⟩ = some (.int .i64 3) := bq.cell' (i := 9) rfl
    have z12 : w.drew.cell? ⟨q, 12, none⟩ = some (.int .i64 tries) := bq.cell' (i := 12) rfl
    have z13 : w.drew.cell? ⟨q, 13, none⟩ = some (.int .i64 limit) := bq.cell' (i := 13) rfl
    refine freeRegion (fun v => v.cell? ⟨q, 9, none⟩ = some (.int .i64 3) ∧ v.cell? ⟨q, 12, none⟩ = some (.int .i64 tries) ∧ v.cell? ⟨q, 13, none⟩ = some (.int .i64 limit)) (by kernel_rfl) (by kernel_rfl) ⟨z9, z12, z13⟩ (fun hSS => ?_)
    clear hSS
    replace hM := hM.drewQ
    replace hB := hB.drew
    replace bq := bq.drew
    generalize w.drew = V1 at *
    refine free_take 0 (v := ?vp0) rfl (by kernel_rfl) (by kernel_rfl) (fun _ _ _ h => h) (⟨z9, z12, z13⟩) (Or.inl ⟨by rfl, ?yp0⟩) ?rp0
    case yp0 => intro w hSw; obtain ⟨hw9, hw12, hw13⟩ := hSw; (try dsimp only at hSw); go_simp; try rfl
    case' rp0 => try simp only [List.getElem_toArray, List.getElem_cons_succ, List.getElem_cons_zero, Act.put, List.setIfInBounds_toArray, List.set_cons_zero, List.set_cons_succ]
    refine free_take 1 (v := ?vp1) rfl (by kernel_rfl) (by kernel_rfl) (fun _ _ _ h => h) (⟨z9, z12, z13⟩) (Or.inl ⟨by rfl, ?yp1⟩) ?rp1
    case yp1 => intro w hSw; obtain ⟨hw9, hw12, hw13⟩ := hSw; (try dsimp only at hSw); go_simp; try rfl
    case' rp1 => try simp only [List.getElem_toArray, List.getElem_cons_succ, List.getElem_cons_zero, Act.put, List.setIfInBounds_toArray, List.set_cons_zero, List.set_cons_succ]
    refine free_take 2 (v := ?vp2) rfl (by kernel_rfl) (by kernel_rfl) (fun _ _ _ h => h) (⟨z9, z12, z13⟩) (Or.inl ⟨by rfl, ?yp2⟩) ?rp2
    case yp2 => intro w hSw; obtain ⟨hw9, hw12, hw13⟩ := hSw; (try dsimp only at hSw); go_simp; try rfl
    case' rp2 => try simp only [List.getElem_toArray, List.getElem_cons_succ, List.getElem_cons_zero, Act.put, List.setIfInBounds_toArray, List.set_cons_zero, List.set_cons_succ]
    refine free_take 3 (v := ?vp3) rfl (by kernel_rfl) (by kernel_rfl) (fun _ _ _ h => h) (⟨z9, z12, z13⟩) (Or.inl ⟨by rfl, ?yp3⟩) ?rp3
    case yp3 => intro w hSw; obtain ⟨hw9, hw12, hw13⟩ := hSw; (try dsimp only at hSw); go_simp; try rfl
    case' rp3 => try simp only [List.getElem_toArray, List.getElem_cons_succ, List.getElem_cons_zero, Act.put, List.setIfInBounds_toArray, List.set_cons_zero, List.set_cons_succ]
    refine free_take 4 (v := ?vp4) rfl (by kernel_rfl) (by kernel_rfl) (fun _ _ _ h => h) (⟨z9, z12, z13⟩) (Or.inl ⟨by rfl, ?yp4⟩) ?rp4
    case yp4 => intro w hSw; obtain ⟨hw9, hw12, hw13⟩ := hSw; (try dsimp only at hSw); go_simp; try rfl
    case' rp4 => try simp only [List.getElem_toArray, List.getElem_cons_succ, List.getElem_cons_zero, Act.put, List.setIfInBounds_toArray, List.set_cons_zero, List.set_cons_succ]
    refine free_take 5 (v := ?vp5) rfl (by kernel_rfl) (by kernel_rfl) (fun _ _ _ h => h) (⟨z9, z12, z13⟩) (Or.inl ⟨by rfl, ?yp5⟩) ?rp5
    case yp5 => intro w hSw; obtain ⟨hw9, hw12, hw13⟩ := hSw; (try dsimp only at hSw); go_simp; try rfl
    case' rp5 => try simp only [List.getElem_toArray, List.getElem_cons_succ, List.getElem_cons_zero, Act.put, List.setIfInBounds_toArray, List.set_cons_zero, List.set_cons_succ]
    refine free_take 6 (v := ?vp6) rfl (by kernel_rfl) (by kernel_rfl) (fun _ _ _ h => h) (⟨z9, z12, z13⟩) (Or.inl ⟨by rfl, ?yp6⟩) ?rp6
    case yp6 => intro w hSw; obtain ⟨hw9, hw12, hw13⟩ := hSw; (try dsimp only at hSw); go_simp; try rfl
    case' rp6 => try simp only [List.getElem_toArray, List.getElem_cons_succ, List.getElem_cons_zero, Act.put, List.setIfInBounds_toArray, List.set_cons_zero, List.set_cons_succ]
    refine free_take 7 (v := ?vp7) rfl (by kernel_rfl) (by kernel_rfl) (fun _ _ _ h => h) (⟨z9, z12, z13⟩) (Or.inl ⟨by rfl, ?yp7⟩) ?rp7
    case yp7 => intro w hSw; obtain ⟨hw9, hw12, hw13⟩ := hSw; (try dsimp only at hSw); go_simp; try rfl
    case' rp7 => try simp only [List.getElem_toArray, List.getElem_cons_succ, List.getElem_cons_zero, Act.put, List.setIfInBounds_toArray, List.set_cons_zero, List.set_cons_succ]
    refine free_take 8 (v := ?vp8) rfl (by kernel_rfl) (by kernel_rfl) (fun _ _ _ h => h) (⟨z9, z12, z13⟩) (Or.inl ⟨by rfl, ?yp8⟩) ?rp8
    case yp8 => intro w hSw; obtain ⟨hw9, hw12, hw13⟩ := hSw; (try dsimp only at hSw); go_simp; try rfl
    case' rp8 => try simp only [List.getElem_toArray, List.getElem_cons_succ, List.getElem_cons_zero, Act.put, List.setIfInBounds_toArray, List.set_cons_zero, List.set_cons_succ]
    refine free_take 9 (v := ?vp9) rfl (by kernel_rfl) (by kernel_rfl) (fun _ _ _ h => h) (⟨z9, z12, z13⟩) (Or.inl ⟨by rfl, ?yp9⟩) ?rp9
    case yp9 => intro w hSw; obtain ⟨hw9, hw12, hw13⟩ := hSw; (try dsimp only at hSw); go_simp; try rfl
    case' rp9 => try simp only [List.getElem_toArray, List.getElem_cons_succ, List.getElem_cons_zero, Act.put, List.setIfInBounds_toArray, List.set_cons_zero, List.set_cons_succ]
    refine free_take 10 (v := ?vp10) rfl (by kernel_rfl) (by kernel_rfl) (fun _ _ _ h => h) (⟨z9, z12, z13⟩) (Or.inl ⟨by rfl, ?yp10⟩) ?rp10
    case yp10 => intro w hSw; obtain ⟨hw9, hw12, hw13⟩ := hSw; (try dsimp only at hSw); go_simp; try rfl
    case' rp10 => try simp only [List.getElem_toArray, List.getElem_cons_succ, List.getElem_cons_zero, Act.put, List.setIfInBounds_toArray, List.set_cons_zero, List.set_cons_succ]
    refine free_take 11 (v := ?vp11) rfl (by kernel_rfl) (by kernel_rfl) (fun _ _ _ h => h) (⟨z9, z12, z13⟩) (Or.inl ⟨by rfl, ?yp11⟩) ?rp11
    case yp11 => intro w hSw; obtain ⟨hw9, hw12, hw13⟩ := hSw; (try dsimp only at hSw); go_simp; try rfl
    case' rp11 => try simp only [List.getElem_toArray, List.getElem_cons_succ, List.getElem_cons_zero, Act.put, List.setIfInBounds_toArray, List.set_cons_zero, List.set_cons_succ]
    refine free_take 12 (v := ?vp12) rfl (by kernel_rfl) (by kernel_rfl) (fun _ _ _ h => h) (⟨z9, z12, z13⟩) (Or.inl ⟨by rfl, ?yp12⟩) ?rp12
    case yp12 => intro w hSw; obtain ⟨hw9, hw12, hw13⟩ := hSw; (try dsimp only at hSw); go_simp; try rfl
    case' rp12 => try simp only [List.getElem_toArray, List.getElem_cons_succ, List.getElem_cons_zero, Act.put, List.setIfInBounds_toArray, List.set_cons_zero, List.set_cons_succ]
    refine free_take 13 (v := ?vp13) rfl (by kernel_rfl) (by kernel_rfl) (fun _ _ _ h => h) (⟨z9, z12, z13⟩) (Or.inl ⟨by rfl, ?yp13⟩) ?rp13
    case yp13 => intro w hSw; obtain ⟨hw9, hw12, hw13⟩ := hSw; (try dsimp only at hSw); go_simp; try rfl
    case' rp13 => try simp only [List.getElem_toArray, List.getElem_cons_succ, List.getElem_cons_zero, Act.put, List.setIfInBounds_toArray, List.set_cons_zero, List.set_cons_succ]
    refine free_take 14 (v := ?vp14) rfl (by kernel_rfl) (by kernel_rfl) (fun _ _ _ h => h) (⟨z9, z12, z13⟩) (Or.inl ⟨by rfl, ?yp14⟩) ?rp14
    case yp14 => intro w hSw; obtain ⟨hw9, hw12, hw13⟩ := hSw; (try dsimp only at hSw); go_simp; try rfl
    case' rp14 => try simp only [List.getElem_toArray, List.getElem_cons_succ, List.getElem_cons_zero, Act.put, List.setIfInBounds_toArray, List.set_cons_zero, List.set_cons_succ]
    refine free_take 15 (v := ?vp15) rfl (by kernel_rfl) (by kernel_rfl) (fun _ _ _ h => h) (⟨z9, z12, z13⟩) (Or.inl ⟨by rfl, ?yp15⟩) ?rp15
    case yp15 => intro w hSw; obtain ⟨hw9, hw12, hw13⟩ := hSw; (try dsimp only at hSw); go_simp; try rfl
    case' rp15 => try simp only [List.getElem_toArray, List.getElem_cons_succ, List.getElem_cons_zero, Act.put, List.setIfInBounds_toArray, List.set_cons_zero, List.set_cons_succ]
    refine free_take 16 (v := ?vp16) rfl (by kernel_rfl) (by kernel_rfl) (fun _ _ _ h => h) (⟨z9, z12, z13⟩) (Or.inl ⟨by rfl, ?yp16⟩) ?rp16
    case yp16 => intro w hSw; obtain ⟨hw9, hw12, hw13⟩ := hSw; (try dsimp only at hSw); go_simp; try rfl
    case' rp16 => try simp only [List.getElem_toArray, List.getElem_cons_succ, List.getElem_cons_zero, Act.put, List.setIfInBounds_toArray, List.set_cons_zero, List.set_cons_succ]
    refine free_take 17 (v := ?vp17) rfl (by kernel_rfl) (by kernel_rfl) (fun _ _ _ h => h) (⟨z9, z12, z13⟩) (Or.inl ⟨by rfl, ?yp17⟩) ?rp17
    case yp17 => intro w hSw; obtain ⟨hw9, hw12, hw13⟩ := hSw; (try dsimp only at hSw); go_simp; try rfl
    case' rp17 => try simp only [List.getElem_toArray, List.getElem_cons_succ, List.getElem_cons_zero, Act.put, List.setIfInBounds_toArray, List.set_cons_zero, List.set_cons_succ]
    refine free_take 18 (v := ?vp18) rfl (by kernel_rfl) (by kernel_rfl) (fun _ _ _ h => h) (⟨z9, z12, z13⟩) (Or.inl ⟨by rfl, ?yp18⟩) ?rp18
    case yp18 => intro w hSw; obtain ⟨hw9, hw12, hw13⟩ := hSw; (try dsimp only at hSw); go_simp; try rfl
    case' rp18 => try simp only [List.getElem_toArray, List.getElem_cons_succ, List.getElem_cons_zero, Act.put, List.setIfInBounds_toArray, List.set_cons_zero, List.set_cons_succ]
    refine free_take 19 (v := ?vp19) rfl (by kernel_rfl) (by kernel_rfl) (fun _ _ _ h => h) (⟨z9, z12, z13⟩) (Or.inl ⟨by rfl, ?yp19⟩) ?rp19
    case yp19 => intro w hSw; obtain ⟨hw9, hw12, hw13⟩ := hSw; (try dsimp only at hSw); go_simp; try rfl
    case' rp19 => try simp only [List.getElem_toArray, List.getElem_cons_succ, List.getElem_cons_zero, Act.put, List.setIfInBounds_toArray, List.set_cons_zero, List.set_cons_succ]
    refine free_take 20 (v := ?vp20) rfl (by kernel_rfl) (by kernel_rfl) (fun _ _ _ h => h) (⟨z9, z12, z13⟩) (Or.inl ⟨by rfl, ?yp20⟩) ?rp20
    case yp20 => intro w hSw; obtain ⟨hw9, hw12, hw13⟩ := hSw; (try dsimp only at hSw); go_simp; try rfl
    case' rp20 => try simp only [List.getElem_toArray, List.getElem_cons_succ, List.getElem_cons_zero, Act.put, List.setIfInBounds_toArray, List.set_cons_zero, List.set_cons_succ]
    have CL := Lib.hid (late_at (⟨id, known, name, size, ended, last, sum, have_, file, 3, timer, patience, tries, limit⟩ : Tk) A an ac F fn fc none 0 0 q V1 bq ht1 ht2 ht3)
    unfold tw at CL
    dsimp only at CL
    refine free_step 21 rfl (by kernel_rfl) (fun K hK => ?lt)
    case lt =>
      rw [if_pos (by kernel_rfl)]
      go_simp
      refine CL.out.mono ?_
      rintro e w2 ⟨rfl, hq2, hT⟩
      trace "RQ"
      replace hM := hM.turnQ bq (by decide) (by decide) (by decide) hT
      replace hB := hB.trans (hT.below (fun k hk => by omega) (by have := hB.size; omega))
      by_cases hp : timer + 1 = patience
      rotate_left
      ·
        rw [decide_eq_false hp]
        rw [if_neg hp] at hq2
        have HE2 := Lib.hid (HE.out hp)
        clear hp HD HE CL bq d1 z9 z12 z13
        have bq := hq2
        have z9 := bq.cell' (i := 9) rfl
        have z12 := bq.cell' (i := 12) rfl
        have z13 := bq.cell' (i := 13) rfl
        refine hK _ _ ⟨z9, z12, z13⟩ ?_
        clear hK K hq2 hT
        try simp only [List.getElem_toArray, List.getElem_cons_succ, List.getElem_cons_zero, Act.put, List.setIfInBounds_toArray, List.set_cons_zero, List.set_cons_succ]
        refine free_take 22 (v := ?vs22) rfl (by kernel_rfl) (by kernel_rfl) (fun _ _ _ h => h) (⟨z9, z12, z13⟩) (Or.inl ⟨by rfl, ?ys22⟩) ?rs22
        case ys22 => intro w hSw; obtain ⟨hw9, hw12, hw13⟩ := hSw; (try dsimp only at hSw); go_simp; try rfl
        case' rs22 => try simp only [List.getElem_toArray, List.getElem_cons_succ, List.getElem_cons_zero, Act.put, List.setIfInBounds_toArray, List.set_cons_zero, List.set_cons_succ]
        refine free_take 23 (v := ?vs23) rfl (by kernel_rfl) (by kernel_rfl) (fun _ _ _ h => h) (⟨z9, z12, z13⟩) (Or.inl ⟨by rfl, ?ys23⟩) ?rs23
        case ys23 => intro w hSw; obtain ⟨hw9, hw12, hw13⟩ := hSw; (try dsimp only at hSw); go_simp; try rfl
        case' rs23 => try simp only [List.getElem_toArray, List.getElem_cons_succ, List.getElem_cons_zero, Act.put, List.setIfInBounds_toArray, List.set_cons_zero, List.set_cons_succ]
        refine free_end (by kernel_rfl) ?_
        trace "RR"
        go_wp2_with fail
        go_ret
        exact DoT.of HR.out (HE2.out) ⟨F, fn, fc, A, an, ac, none, 0, 0, [], rfl, bq, hM, hB⟩
      ·
        rw [decide_eq_true hp]
        rw [if_pos hp] at hq2
        have HE2 := Lib.hid (HD.out hp)
        clear hp HD HE CL bq d1 z9 z12 z13
        have bq := hq2
        have z9 := bq.cell' (i := 9) rfl
        have z12 := bq.cell' (i := 12) rfl
        have z13 := bq.cell' (i := 13) rfl
        refine hK _ _ ⟨z9, z12, z13⟩ ?_
        clear hK K hq2 hT
        try simp only [List.getElem_toArray, List.getElem_cons_succ, List.getElem_cons_zero, Act.put, List.setIfInBounds_toArray, List.set_cons_zero, List.set_cons_succ]
        refine free_take 22 (v := ?vt22) rfl (by kernel_rfl) (by kernel_rfl) (fun _ _ _ h => h) (⟨z9, z12, z13⟩) (Or.inl ⟨by rfl, ?yt22⟩) ?rt22
        case yt22 => intro w hSw; obtain ⟨hw9, hw12, hw13⟩ := hSw; (try dsimp only at hSw); go_simp; try rfl
        case' rt22 => try simp only [List.getElem_toArray, List.getElem_cons_succ, List.getElem_cons_zero, Act.put, List.setIfInBounds_toArray, List.set_cons_zero, List.set_cons_succ]
        refine free_take 23 (v := ?vt23) rfl (by kernel_rfl) (by kernel_rfl) (fun _ _ _ h => h) (⟨z9, z12, z13⟩) (Or.inl ⟨by rfl, ?yt23⟩) ?rt23
        case yt23 => intro w hSw; obtain ⟨hw9, hw12, hw13⟩ := hSw; (try dsimp only at hSw); go_simp; try rfl
        case' rt23 => try simp only [List.getElem_toArray, List.getElem_cons_succ, List.getElem_cons_zero, Act.put, List.setIfInBounds_toArray, List.set_cons_zero, List.set_cons_succ]
        refine free_end (by kernel_rfl) ?_
        trace "RS"
        have kf := bq.frozen
        go_upto_region 9 with fail
        clear kf z9 z12 z13
        replace hM := hM.turnQ bq (by decide) (by decide) (by decide) ((Turned.refl w2 (fun i => i = q)).set (p := ⟨q, 12, none⟩) (fun _ => rfl) (.int .i64 (tries + 1)))
        replace bq := bq.set_ 12 (.int .i64 (tries + 1))
        replace hB := hB.setCell (p := ⟨q, 12, none⟩) hbq (.int .i64 (tries + 1))
        generalize w2.setCell ⟨q, 12, none⟩ (.int .i64 (tries + 1)) = V2 at *
        have CK := Lib.hid (done_at 0 (⟨id, known, name, size, ended, last, sum, have_, file, 3, 0, patience, tries + 1, limit⟩ : Tk) F fn fc A an ac none 0 0 [] base q [] V2 bq hM (by simp) (by have := hB.size; omega) hbq)
        go_wp2_with fail
        refine CK.out.mono ?_
        intro e w3 h3
        have h3e : e = .returned (.tuple #[]) := by obtain ⟨O1, on1, oc1, l1, h, -⟩ := h3; exact h
        subst h3e
        go_wp2_with fail
        go_ret
        exact DoT.of HR.out HE2.out (SayT.do_ h3 hB)
end Go.Proofs.Ytianombjgdmbeaa
namespace Go.Proofs.Ytianombjgdmbeaa
set_option linter.unusedSimpArgs false
set_option linter.unusedVariables false
open Go.RowKit

theorem waitR_zero {x y : Tk} {ns : List Nt} {k : Int} (h : waitR x = (y, ns, k)) (h0 : tkOk x = false) : y = tkZero ∧ ns = [] ∧ k = 11 := by
  rw [waitR_no h0] at h
  injection h with e1 h
  injection h with e2 e3
  exact ⟨e1.symm, e2.symm, e3.symm⟩
theorem waitR_ok {x y : Tk} {ns : List Nt} {k : Int} (h : waitR x = (y, ns, k)) (h0 : tkOk x = true) : waitT x = (y, ns) ∧ k = 0 := by
  have h2 := waitR_is (y := (waitT x).1) (ns := (waitT x).2) h0 rfl
  rw [h2] at h
  injection h with e1 h
  injection h with e2 e3
  exact ⟨by rw [← e1, ← e2], e3.symm⟩
theorem waitT_keep (x : Tk) : (waitT x).1.file = x.file ∧ (waitT x).1.have_ = x.have_ ∧ (∀ n ∈ (waitT x).2, NoteFits n) ∧ (waitT x).2.length ≤ 1 := by
  have h1 : ∀ e, NoteFits (doneN x e) := fun e => ⟨by simp [doneN], by simp [doneN]⟩
  have h2 : ∀ n ∈ askT x, NoteFits n := by
    intro n hn
    unfold askT at hn
    split at hn
    · cases hn
    · rw [List.mem_singleton.1 hn]
      refine ⟨by simp [gapsN], ?_⟩
      show (missT x).length ≤ _
      unfold missT capG
      rw [List.length_take]
      omega
  have h3 : (askT x).length ≤ 1 := by unfold askT; split <;> simp
  unfold waitT
  split
  · split
    · split
      · exact ⟨rfl, rfl, (fun n hn => by cases hn), by simp⟩
      · exact ⟨rfl, rfl, h2, h3⟩
    · exact ⟨rfl, rfl, (fun n hn => by cases hn), by simp⟩
  · split
    · split
      · exact ⟨rfl, rfl, (fun n hn => by rw [List.mem_singleton.1 hn]; exact h1 0), by simp⟩
      · exact ⟨rfl, rfl, (fun n hn => by cases hn), by simp⟩
    · exact ⟨rfl, rfl, (fun n hn => by cases hn), by simp⟩
/-- What a tick leaves fits the machine. -/
theorem waitR_fits {x y : Tk} {ns : List Nt} {k : Int} (h : waitR x = (y, ns, k)) : (y.file = x.file ∨ y.file = []) ∧ (y.have_ = x.have_ ∨ y.have_ = []) ∧ (∀ n ∈ ns, NoteFits n) ∧ ns.length ≤ 1 := by
  cases h0 : tkOk x
  · obtain ⟨e1, e2, e3⟩ := waitR_zero h h0
    subst e1 e2
    exact ⟨.inr rfl, .inr rfl, (fun n hn => by cases hn), by simp⟩
  · obtain ⟨e1, -⟩ := waitR_ok h h0
    obtain ⟨k1, k2, k3, k4⟩ := waitT_keep x
    rw [e1] at k1 k2 k3 k4
    exact ⟨.inl k1, .inl k2, k3, k4⟩
set_option maxHeartbeats 6400000 in
set_option maxRecDepth 100000 in
theorem wait_any (x : Tk) (F : Option Addr) (fn fc : Nat) (A : Option Addr) (an ac : Nat) (y : Tk) (ns : List Nt) (k : Int) (w : World) (hR : waitR x = (y, ns, k)) (hf : x.file.length = fn) (ha : x.have_.length = an) (hF : Rd w F (bvs x.file)) (hA : Rd w A (gps x.have_)) (hfn : fn ≤ 140737488351232) (hfc : fn ≤ fc) (han : an ≤ 8796093022200) :
    Calls Try.prog 27 #[tvv x F fn fc A an ac] w fun e w' => TkRes w w' y ns k e := by
  have hzr := fun h => waitR_zero hR h
  have CG := Lib.hid (fun (V : World) (hB : Below w.heap.size w V) =>
    taking_Wait undef x F fn fc A an ac y ns k V hf ha (hF.below hB) (hA.below hB) hfn hfc han hzr
      (fun V' q base F1 A1 f1 a1 hok hBV hq hOF hOA h1 h2 h3 => by
        obtain ⟨hr2, rfl⟩ := waitR_ok hR hok
        exact doWait_any x y ns F1 fn f1 A1 an a1 base q V' hr2 hok hq hOF hOA hf ha h3 h2))
  obtain ⟨id, known, name, size, ended, last, sum, have_, file, stage, timer, patience, tries, limit⟩ := x
  unfold tvv tkv tkc at CG
  unfold tvv tkv tkc
  dsimp only at CG ⊢
  have bx := (Blk.new w 44 #[.int .i64 id, .bool known, .string name, .int .i64 size, .bool ended, .int .i64 last, .int .i64 sum, .slice A an ac, .slice F fn fc, .int .i64 stage, .int .i64 timer, .int .i64 patience, .int .i64 tries, .int .i64 limit]).alloc (.cells #[.int .i64 0, .bool false, .string ⟨#[]⟩, .int .i64 0, .bool false, .int .i64 0, .int .i64 0, .slice none 0 0, .slice none 0 0, .int .i64 0, .int .i64 0, .int .i64 0, .int .i64 0, .int .i64 0] 44)
  have br := Blk.new (w.alloc (.cells #[.int .i64 id, .bool known, .string name, .int .i64 size, .bool ended, .int .i64 last, .int .i64 sum, .slice A an ac, .slice F fn fc, .int .i64 stage, .int .i64 timer, .int .i64 patience, .int .i64 tries, .int .i64 limit] 44)) 44 #[.int .i64 0, .bool false, .string ⟨#[]⟩, .int .i64 0, .bool false, .int .i64 0, .int .i64 0, .slice none 0 0, .slice none 0 0, .int .i64 0, .int .i64 0, .int .i64 0, .int .i64 0, .int .i64 0]
  rw [show (w.alloc (.cells #[.int .i64 id, .bool known, .string name, .int .i64 size, .bool ended, .int .i64 last, .int .i64 sum, .slice A an ac, .slice F fn fc, .int .i64 stage, .int .i64 timer, .int .i64 patience, .int .i64 tries, .int .i64 limit] 44)).heap.size = w.heap.size + 1 by simp] at br
  have hB : Below w.heap.size w ((w.alloc (.cells #[.int .i64 id, .bool known, .string name, .int .i64 size, .bool ended, .int .i64 last, .int .i64 sum, .slice A an ac, .slice F fn fc, .int .i64 stage, .int .i64 timer, .int .i64 patience, .int .i64 tries, .int .i64 limit] 44)).alloc (.cells #[.int .i64 0, .bool false, .string ⟨#[]⟩, .int .i64 0, .bool false, .int .i64 0, .int .i64 0, .slice none 0 0, .slice none 0 0, .int .i64 0, .int .i64 0, .int .i64 0, .int .i64 0, .int .i64 0] 44)) := ((Below.refl _ _).alloc (Nat.le_refl _) _).alloc (by simp) _
  go_enter Try.func27, Try.ntmps27
  go_upto_region 1 with fail
  generalize (w.alloc (.cells #[.int .i64 id, .bool known, .string name, .int .i64 size, .bool ended, .int .i64 last, .int .i64 sum, .slice A an ac, .slice F fn fc, .int .i64 stage, .int .i64 timer, .int .i64 patience, .int .i64 tries, .int .i64 limit] 44)).alloc (.cells #[.int .i64 0, .bool false, .string ⟨#[]⟩, .int .i64 0, .bool false, .int .i64 0, .int .i64 0, .slice none 0 0, .slice none 0 0, .int .i64 0, .int .i64 0, .int .i64 0, .int .i64 0, .int .i64 0] 44) = W at *
  have zb := br.lt
  have CG2 := Lib.hid (CG.out W hB)
  clear CG
  go_wp2_with (refine wpList_load_row rfl 44 (.tmp 1) rfl w.heap.size rfl 44 #[.int .i64 id, .bool known, .string name, .int .i64 size, .bool ended, .int .i64 last, .int .i64 sum, .slice A an ac, .slice F fn fc, .int .i64 stage, .int .i64 timer, .int .i64 patience, .int .i64 tries, .int .i64 limit] (0, 0) _ bx Try.underlying44 rfl takersz ?_)
  refine CG2.out.mono ?_
  intro e w1 h1
  obtain ⟨F1, n1, f1, A1, m1, a1, O, on, oc, l, rfl, hM, hb⟩ := h1
  replace br := br.step hb
  have zt := hb.size
  replace hB := hB.trans (hb.mono hB.size)
  clear hb CG2 hzr
  have HR := Lib.hid hR
  clear hR
  obtain ⟨yid, yknown, yname, ysize, yended, ylast, ysum, yhave_, yfile, ystage, ytimer, ypatience, ytries, ylimit⟩ := y
  unfold tvv tkv tkc
  dsimp only
  go_wp2_with (refine wpList_store_row rfl 44 (.tmp 2) (.tmp 7) rfl (w.heap.size + 1) #[.int .i64 yid, .bool yknown, .string yname, .int .i64 ysize, .bool yended, .int .i64 ylast, .int .i64 ysum, .slice A1 m1 a1, .slice F1 n1 f1, .int .i64 ystage, .int .i64 ytimer, .int .i64 ypatience, .int .i64 ytries, .int .i64 ylimit] rfl rfl 44 _ br takersz rfl (by simp [Value.oneCell']) ?_)
  have br2 := br.row #[.int .i64 yid, .bool yknown, .string yname, .int .i64 ysize, .bool yended, .int .i64 ylast, .int .i64 ysum, .slice A1 m1 a1, .slice F1 n1 f1, .int .i64 ystage, .int .i64 ytimer, .int .i64 ypatience, .int .i64 ytries, .int .i64 ylimit]
  refine bodyPost_ret (v := .tuple #[.agg #[.int .i64 yid, .bool yknown, .string yname, .int .i64 ysize, .bool yended, .int .i64 ylast, .int .i64 ysum, .slice A1 m1 a1, .slice F1 n1 f1, .int .i64 ystage, .int .i64 ytimer, .int .i64 ypatience, .int .i64 ytries, .int .i64 ylimit], .slice O on oc, .int .i64 k]) (results_cell_two rfl _ _ (w.heap.size + 1) 44 _ (0, 0) _ rfl rfl rfl br2 Try.underlying44 rfl takersz) rfl ?_
  exact tk_out (y := ⟨yid, yknown, yname, ysize, yended, ylast, ysum, yhave_, yfile, ystage, ytimer, ypatience, ytries, ylimit⟩) (base := W.heap.size) hB (by omega) (by omega) hM
end Go.Proofs.Ytianombjgdmbeaa
