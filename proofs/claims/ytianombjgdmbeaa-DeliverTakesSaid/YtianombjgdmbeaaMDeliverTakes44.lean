/-
  copy within a drawn region: a row of one-cell elements. The bytes of a piece, by the program (lay).
-/
import Derived.Test.YtianombjgdmbeaaMDeliverTakes1
import Derived.Laws.CopyOwn
import Derived.Test.YtianombjgdmbeaaMDeliverTakes41
import Derived.Test.YtianombjgdmbeaaMDeliverTakes40
import Derived.Test.YtianombjgdmbeaaMDeliverTakes35
namespace Go.Proofs.Ytianombjgdmbeaa
set_option linter.unusedSimpArgs false
set_option linter.unusedVariables false
open Go.RowKit

theorem wp_copy_row {P : Program} {w : World} {o : Oper} {a : Act} {K : Act → World → Prop} {Q : Exit → Act → World → Prop} (d s : Operand) (dT sT : TypeId)
    (ho : o.op = .call { callee := .builtin .copy, args := #[d, s], argTypes := #[dT, sT] }) (elem : TypeId) (hu : P.underlying dT = some (.slice elem)) (hsz : (P.info? elem).map (·.size) = some 1)
    (g off dLen dCap : Nat) (ad : Addr) (sLen sCap : Nat) (hd : a.eval d = .slice (some ⟨g, off, none⟩) dLen dCap) (hs : a.eval s = .slice (some ad) sLen sCap)
    (cur : Array Value) (t : TypeId) (hg : w.heap[g]? = some (.cells cur t (0, 0))) (cs : List Value) (hn : cs.length = Nat.min sLen dLen)
    (hsrc : ∀ j v, cs[j]? = some v → w.cell? (ad.add j) = some v) (hfit : off + cs.length ≤ cur.size) (h1 : ∀ v ∈ cs, v.oneCell' = true)
    (h : K (a.put o.dst (goInt cs.length)) (w.setRow g (cur.toList.take off ++ (cs ++ cur.toList.drop (off + cs.length))).toArray)) : Oper.wp P o a w K Q := by
  have hrun := run_copy_row (P := P) w dT sT o.type elem g off dLen dCap ad sLen sCap cur t cs hu hsz hg hn hsrc hfit h1
  unfold Oper.wp
  simp [execOp, ho, resolve, invoke, builtin, hd, hs, hrun, Result.andThen]
  exact h
end Go.Proofs.Ytianombjgdmbeaa
namespace Go.Proofs.Ytianombjgdmbeaa
set_option linter.unusedSimpArgs false
set_option linter.unusedVariables false
open Go.RowKit

theorem srt_mem : ∀ (l : List (Int × Int)) (e : Int), Srt e l → ∀ g ∈ l, e < g.1 ∧ g.1 < g.2 ∧ g.2 ≤ endR e l
  | [], _, _, _, hg => by cases hg
  | a :: l, e, h, g, hg => by
    obtain ⟨h1, h2, h3⟩ := h
    have h4 := srt_mem l a.2 h3
    have h5 := h3.end_
    rcases List.mem_cons.1 hg with rfl | hg
    · exact ⟨h1, h2, h5⟩
    · obtain ⟨x, y, z⟩ := h4 g hg
      exact ⟨by omega, y, z⟩
theorem layG_1 {s : Int × Int} {l : List (Int × Int)} {m : Int × Int} (h : s.2 < m.1) : layG (s :: l) m = s :: layG l m := by rw [layG, if_pos h]
theorem layG_2 {s : Int × Int} {l : List (Int × Int)} {m : Int × Int} (h : ¬ s.2 < m.1) (h2 : m.2 < s.1) : layG (s :: l) m = m :: layG l s := by rw [layG, if_neg h, if_pos h2]
theorem layG_3 {s : Int × Int} {l : List (Int × Int)} {m : Int × Int} (h : ¬ s.2 < m.1) (h2 : ¬ m.2 < s.1) : layG (s :: l) m = layG l (min m.1 s.1, max m.2 s.2) := by rw [layG, if_neg h, if_neg h2]
theorem GvMem.lays {W : World} {base : Nat} {x : Tk} {f' : List UInt8} {a' : List (Int × Int)} {ns : List Nt} {F A O F' A' : Option Addr} {fn fc an ac on oc fn' fc' an' ac' : Nat} {l : List NtR} (h : GvMem W base (pg x) ns F fn fc A an ac O on oc l) (h1 : f'.length = fn') (h2 : a'.length = an') (h3 : Own W base 5 1 F' fn' fc' (bvs f')) (h4 : Own W base 66 2 A' an' ac' (gps a'))
    (h5 : ∀ (j : Nat) (y : NtR), l[j]? = some y → ∀ k, blk y.D = some k → blk F' ≠ some k) (h6 : ∀ (j : Nat) (y : NtR), l[j]? = some y → ∀ k, blk y.G = some k → blk A' ≠ some k) : GvMem W base (pg { x with file := f', have_ := a' }) ns F' fn' fc' A' an' ac' O on oc l :=
  ⟨h1, h2, h.nl, h.ln, h3, h4, h.out, h.parts, fun j y hy => ⟨fun k hk e => h5 j y hy k e hk, fun k hk e => h6 j y hy k e hk⟩⟩
/-- A taker at work that a piece has been laid into. -/
def LayAt (w w' : World) (base q : Nat) (x : Tk) (ns : List Nt) (O : Option Addr) (on oc : Nat) (l : List NtR) (e : Ending) : Prop :=
  ∃ F fn fc A an ac, e = .returned (.tuple #[]) ∧ Blk w' q 86 (tw x A an ac F fn fc O on oc) ∧ GvMem w' base (pg x) ns F fn fc A an ac O on oc l ∧ Below base w w' ∧ ∀ i, i < w.heap.size → i ≠ q → w'.heap[i]? = w.heap[i]?
set_option maxHeartbeats 12800000 in
set_option maxRecDepth 100000 in
theorem play_at (x : Tk) (F : Option Addr) (fn fc : Nat) (A : Option Addr) (an ac : Nat) (O : Option Addr) (on oc : Nat) (l : List NtR) (D : Option Addr) (dn dc a base q : Nat) (n : Nt) (ns : List Nt) (w : World) (hq : Blk w q 86 (tw x A an ac F fn fc O on oc)) (hM : GvMem w base (pg x) ns F fn fc A an ac O on oc l) (hD : Rd w D (bvs n.data)) (hdn : n.data.length = dn) (hat : n.at_ = (a : Int)) (hd1 : 1 ≤ dn) (had : a + dn ≤ 65536) (hrows : Srt (-1) x.have_) (hlong1 : (x.file.length : Int) = max (endR (-1) x.have_) 0) (hlong2 : x.file.length ≤ 65536) (hbase : base ≤ w.heap.size) (hbq : base ≤ q) :
    Calls Try.prog 105 #[.pointer (some ⟨q, 0, none⟩), .int .i64 (a : Int), .slice D dn dc] w fun e w' => LayAt w w' base q (layT x n) ns O on oc l e := by
  obtain ⟨i0, hi0, hz0, hz1, hz2⟩ := info_parts u8info
  obtain ⟨j0, hj0, hy0, hy1, hy2⟩ := info_parts pairinfo
  have hfl : x.file.length = fn := hM.fl
  have hhl : x.have_.length = an := hM.al
  have han : an ≤ 100000 := by have := srt_len hrows; omega
  obtain ⟨long, hlong⟩ : ∃ long, max fn (a + dn) = long := ⟨_, rfl⟩
  have hlg : long ≤ 65536 := by omega
  have HM := Lib.hid hM
  have HFL := Lib.hid hfl
  have HHL := Lib.hid hhl
  have HF := Lib.hid (show Rd w F (bvs x.file) from hM.file.rd)
  have HA := Lib.hid (show Rd w A (gps x.have_) from hM.again.rd)
  have HD := Lib.hid hD
  have HDL := Lib.hid hdn
  have HSR := Lib.hid hrows
  have HLO := Lib.hid (show max (endR (-1) x.have_) 0 = (fn : Int) by rw [← hlong1, hfl])
  have hfcap := hM.file.le
  have hmk := run_make_row' (P := Try.prog) 23 5 (.int .u8 0) 1 Try.underlying23 u8info rfl .i64 .i64 long (by omega) (by omega)
  have hLT : layT x n = { x with file := layF x.file x.have_ a n.data, have_ := layG x.have_ ((a : Int), (a : Int) + (dn : Int)) } := by unfold layT; rw [hat, hdn]; rfl
  rw [hLT]
  clear hM hfl hhl hrows hlong1 hlong2 hD hdn hat hLT
  obtain ⟨id, known, name, size, ended, last, sum, have_, file, stage, timer, patience, tries, limit⟩ := x
  obtain ⟨kind, nid, nname, nsize, nsum, nat_, data, gaps, nof, ncode⟩ := n
  unfold tw at hq
  dsimp only at hq HF HA HD HFL HHL HDL HSR HLO ⊢
  have hqlt := hq.lt
  have bq := hq
  have x8 := bq.cell' (i := 8) rfl
  clear hq
  go_enter Try.func105, Try.ntmps105
  go_upto_region 1 with fail
  trace "A"
  go_cut [7] (fun s wx => s = .slice (some ⟨w.heap.size, 0, none⟩) long long ∧ w.alloc (.cells (madeCells #[.int .u8 0] long) 5) = wx)
  case first =>
    by_cases c : fn < a + dn
    ·
      have e := Lib.hid (show (a : Int) + (dn : Int) = (long : Int) by omega)
      have c1 : ¬ (a : Int) + (dn : Int) ≤ (fn : Int) := by omega
      have c2 : (fn : Int) < (a : Int) + (dn : Int) := by omega
      rw [show ((long : Nat) : Int) = (a : Int) + (dn : Int) from e.out.symm] at hmk
      go_wp2_with fail
      go_meet
      exact ⟨rfl, rfl⟩
    ·
      have e := Lib.hid (show fn = long by omega)
      have c1 : (a : Int) + (dn : Int) ≤ (fn : Int) := by omega
      obtain rfl := e.out
      go_wp2_with fail
      go_meet
      exact ⟨rfl, rfl⟩
  case rest =>
    obtain ⟨rfl, hW⟩ := hcut
    subst hW
    trace "B"
    have hsz1 : (Try.prog.info? 5).map (·.size) = some 1 := by kernel_rfl
    have hBm : Below w.heap.size w (w.alloc (.cells (madeCells #[.int .u8 0] long) 5)) := (Below.refl _ _).alloc (Nat.le_refl _) _
    have hg0 : (w.alloc (.cells (madeCells #[.int .u8 0] long) 5)).heap[w.heap.size]? = some (.cells (List.replicate long (.int .u8 0)).toArray 5 (0, 0)) := by
      rw [heap_alloc_new w _]
      congr 2
      apply Array.ext'
      rw [toList_madeCells_one]
    have hal : a ≤ long := by omega
    have hali : (a : Int) ≤ (long : Int) := by omega
    have hai0 : (0 : Int) ≤ (a : Int) := by omega
    have hDW := HD.out.below hBm
    have hcl : (bvs data).length = Nat.min dn (long - a) := by rw [bvs_length, HDL.out]; show dn = min dn (long - a); omega
    go_upto_region 3 with (with_reducible refine wpList_copy_splice rfl (.tmp 29) (.tmp 30) 23 23 rfl 5 Try.underlying23 hsz1 (some ⟨w.heap.size, a, none⟩) D (long - a) (long - a) dn dc rfl rfl w.heap.size a (List.replicate long (.int .u8 0)) 5 hg0 (bvs data) hcl ?h3 ?h4 (bvs_one data) w.heap.size w hBm (Nat.le_refl _) ?h6)
    case h3 =>
      intro hpos
      have hl : 0 < data.length := by rw [HDL.out]; omega
      obtain ⟨b, off, e, _⟩ := hDW.byte hl
      refine ⟨⟨b, off, none⟩, e, fun j v hv => ?_⟩
      subst e
      rw [Addr.add_lit]
      exact hDW.cell hv
    case h4 => rw [bvs_length, HDL.out, List.length_replicate]; omega
    case h6 =>
      intro w3 hg3 hb3
      trace "C"
      obtain ⟨fb, hfb⟩ : ∃ g, w.heap.size = g := ⟨_, rfl⟩
      have HFB := Lib.hid hfb
      clear hfb
      have hQL0 : (layQ file [] a data).length = long := by rw [layQ_len, HFL.out, HDL.out]; exact hlong
      have k0 : Blk w3 fb 5 (bvs (layQ file [] a data)).toArray := by
        have e : splice (List.replicate long (.int .u8 0)) a (bvs data) = bvs (layQ file [] a data) := by
          rw [layQ_0, bvs_append, bvs_append, HFL.out, HDL.out, hlong]
          simp [splice, bvs, bv, HDL.out]
          omega
        have hg4 := hg3.out
        rw [e] at hg4
        rw [← HFB.out]
        exact hg4
      have kq := bq.step hb3
      have zfb : fb < w3.heap.size := k0.lt
      have hM3 := HM.out.step hb3
      have zBw : Below w.heap.size w w3 := hb3
      clear hg3 hb3 hcl hg0 hBm hDW hmk x8
      have x7 := kq.cell' (i := 7) rfl
      trace "D"
      go_wp2_with fail
      trace "E"
      clear x7
      go_loopw [38] (fun iv wr => ∃ i : Nat, i ≤ an ∧ iv = .int .i64 (i : Int) ∧ Blk wr fb 5 (bvs (layQ file (have_.take i) a data)).toArray ∧ Below w.heap.size w wr) (fun iv _ => an - (intOf iv).toNat)
      case atStart => exact ⟨0, Nat.zero_le _, rfl, k0, zBw⟩
      case round =>
        clear k0 kq hM3
        obtain ⟨i, hi, rfl, k0, hB⟩ := hrel
        have kq := bq.step hB
        have zwr := hB.size
        trace "F"
        by_cases h5 : i < an
        ·
          have h5i : (i : Int) < (an : Int) := by omega
          have hip : (0 : Int) ≤ (i : Int) := by omega
          obtain ⟨g, hg⟩ : ∃ g, have_[i]? = some g := ⟨_, List.getElem?_eq_getElem (by rw [HHL.out]; exact h5)⟩
          obtain ⟨gb, o, rfl, f0, f1⟩ := rdgap_cells (HA.out.below hB) hg
          have hgl : gb < w.heap.size := by
            obtain ⟨b', o', e, hc⟩ := HA.out (i * 2 + 0) _ ((gps_get hg (j := 0) (by omega)).trans rfl)
            injection e with e
            injection e with e1 e2
            subst e1
            exact World.block_lt_of_cell? _ _ hc
          have HTK : Hid (have_.take (i + 1) = have_.take i ++ [g]) := Lib.hid (by rw [List.take_add_one, hg]; rfl)
          obtain ⟨g1, g2, g3⟩ := srt_mem have_ (-1) HSR.out g (List.mem_of_getElem? hg)
          have g4 : g.2 ≤ (fn : Int) := by have := HLO.out; omega
          clear hg g3
          obtain ⟨gp, gr⟩ := g
          dsimp only at f0 f1 g1 g2 g4
          obtain ⟨p, rfl⟩ : ∃ p : Nat, gp = (p : Int) := ⟨gp.toNat, by omega⟩
          obtain ⟨r, rfl⟩ : ∃ r : Nat, gr = (r : Int) := ⟨gr.toNat, by omega⟩
          obtain ⟨fb1, fof, rfl, -⟩ := HF.out.byte (show 0 < file.length by rw [HFL.out]; omega)
          trace "G"
          go_upto_region 6 with fail
          trace "H"
          have kx := Blk.new wr 66 #[.int .i64 (p : Int), .int .i64 (r : Int)]
          have k0a := k0.alloc (.cells #[.int .i64 (p : Int), .int .i64 (r : Int)] 66)
          have kqa := kq.alloc (.cells #[.int .i64 (p : Int), .int .i64 (r : Int)] 66)
          have hBa := hB.alloc zwr (.cells #[.int .i64 (p : Int), .int .i64 (r : Int)] 66)
          have HMF := HF.out.below hBa
          obtain ⟨bx, hbx⟩ : ∃ g, wr.heap.size = g := ⟨_, rfl⟩
          have zbx : w.heap.size ≤ bx := by omega
          have zk0 := k0.lt
          have zkq := kq.lt
          rw [hbx] at kx zk0 zkq ⊢
          clear k0 kq hB f0 f1 hbx
          generalize wr.alloc (.cells #[.int .i64 (p : Int), .int .i64 (r : Int)] 66) = V0 at *
          have f0 : V0.drew.cell? ⟨bx, 0, none⟩ = some (.int .i64 (p : Int)) := kx.cell' (i := 0) rfl
          have f1 : V0.drew.cell? ⟨bx, 1, none⟩ = some (.int .i64 (r : Int)) := kx.cell' (i := 1) rfl
          have f8 : V0.drew.cell? ⟨q, 8, none⟩ = some (.slice (some ⟨fb1, fof, none⟩) fn fc) := kqa.cell' (i := 8) rfl
          refine freeRegion (fun v => v.cell? ⟨bx, 0, none⟩ = some (.int .i64 (p : Int)) ∧ v.cell? ⟨bx, 1, none⟩ = some (.int .i64 (r : Int)) ∧ v.cell? ⟨q, 8, none⟩ = some (.slice (some ⟨fb1, fof, none⟩) fn fc)) (by kernel_rfl) (by kernel_rfl) ⟨f0, f1, f8⟩ (fun hSS => ?_)
          clear hSS
          replace k0a := k0a.drew
          replace kqa := kqa.drew
          replace hBa := hBa.drew
          trace "I"
          replace kx := kx.drew
          replace HMF := Lib.hid (HMF.below ((Below.refl V0.heap.size V0).drew))
          generalize V0.drew = V at *
          have hpr : (p : Int) ≤ (r : Int) := by omega
          have hp0 : (0 : Int) ≤ (p : Int) := by omega
          have hrl : (r : Int) ≤ (long : Int) := by omega
          have hrf : (r : Int) ≤ (fc : Int) := by omega
          refine free_take 0 (v := ?va0) rfl (by kernel_rfl) (by kernel_rfl) (fun _ _ _ h => h) (⟨f0, f1, f8⟩) (Or.inl ⟨by rfl, ?ya0⟩) ?ra0
          case ya0 => intro w hSw; obtain ⟨hw0, hw1, hw8⟩ := hSw; (try dsimp only at hSw); go_simp; try rfl
          case' ra0 => try simp only [List.getElem_toArray, List.getElem_cons_succ, List.getElem_cons_zero, Act.put, List.setIfInBounds_toArray, List.set_cons_zero, List.set_cons_succ]
          refine free_take 1 (v := ?va1) rfl (by kernel_rfl) (by kernel_rfl) (fun _ _ _ h => h) (⟨f0, f1, f8⟩) (Or.inl ⟨by rfl, ?ya1⟩) ?ra1
          case ya1 => intro w hSw; obtain ⟨hw0, hw1, hw8⟩ := hSw; (try dsimp only at hSw); go_simp; try rfl
          case' ra1 => try simp only [List.getElem_toArray, List.getElem_cons_succ, List.getElem_cons_zero, Act.put, List.setIfInBounds_toArray, List.set_cons_zero, List.set_cons_succ]
          refine free_take 2 (v := ?va2) rfl (by kernel_rfl) (by kernel_rfl) (fun _ _ _ h => h) (⟨f0, f1, f8⟩) (Or.inl ⟨by rfl, ?ya2⟩) ?ra2
          case ya2 => intro w hSw; obtain ⟨hw0, hw1, hw8⟩ := hSw; (try dsimp only at hSw); go_simp; try rfl
          case' ra2 => try simp only [List.getElem_toArray, List.getElem_cons_succ, List.getElem_cons_zero, Act.put, List.setIfInBounds_toArray, List.set_cons_zero, List.set_cons_succ]
          refine free_take 3 (v := ?va3) rfl (by kernel_rfl) (by kernel_rfl) (fun _ _ _ h => h) (⟨f0, f1, f8⟩) (Or.inl ⟨by rfl, ?ya3⟩) ?ra3
          case ya3 => intro w hSw; obtain ⟨hw0, hw1, hw8⟩ := hSw; (try dsimp only at hSw); go_simp; try rfl
          case' ra3 => try simp only [List.getElem_toArray, List.getElem_cons_succ, List.getElem_cons_zero, Act.put, List.setIfInBounds_toArray, List.set_cons_zero, List.set_cons_succ]
          refine free_take 4 (v := ?va4) rfl (by kernel_rfl) (by kernel_rfl) (fun _ _ _ h => h) (⟨f0, f1, f8⟩) (Or.inl ⟨by rfl, ?ya4⟩) ?ra4
          case ya4 => intro w hSw; obtain ⟨hw0, hw1, hw8⟩ := hSw; (try dsimp only at hSw); go_simp; try rfl
          case' ra4 => try simp only [List.getElem_toArray, List.getElem_cons_succ, List.getElem_cons_zero, Act.put, List.setIfInBounds_toArray, List.set_cons_zero, List.set_cons_succ]
          refine free_take 5 (v := ?va5) rfl (by kernel_rfl) (by kernel_rfl) (fun _ _ _ h => h) (⟨f0, f1, f8⟩) (Or.inl ⟨by rfl, ?ya5⟩) ?ra5
          case ya5 => intro w hSw; obtain ⟨hw0, hw1, hw8⟩ := hSw; (try dsimp only at hSw); go_simp; try rfl
          case' ra5 => try simp only [List.getElem_toArray, List.getElem_cons_succ, List.getElem_cons_zero, Act.put, List.setIfInBounds_toArray, List.set_cons_zero, List.set_cons_succ]
          refine free_take 6 (v := ?va6) rfl (by kernel_rfl) (by kernel_rfl) (fun _ _ _ h => h) (⟨f0, f1, f8⟩) (Or.inl ⟨by rfl, ?ya6⟩) ?ra6
          case ya6 => intro w hSw; obtain ⟨hw0, hw1, hw8⟩ := hSw; (try dsimp only at hSw); go_simp; try rfl
          case' ra6 => try simp only [List.getElem_toArray, List.getElem_cons_succ, List.getElem_cons_zero, Act.put, List.setIfInBounds_toArray, List.set_cons_zero, List.set_cons_succ]
          refine free_take 7 (v := ?va7) rfl (by kernel_rfl) (by kernel_rfl) (fun _ _ _ h => h) (⟨f0, f1, f8⟩) (Or.inl ⟨by rfl, ?ya7⟩) ?ra7
          case ya7 => intro w hSw; obtain ⟨hw0, hw1, hw8⟩ := hSw; (try dsimp only at hSw); go_simp; try rfl
          case' ra7 => try simp only [List.getElem_toArray, List.getElem_cons_succ, List.getElem_cons_zero, Act.put, List.setIfInBounds_toArray, List.set_cons_zero, List.set_cons_succ]
          refine free_take 8 (v := ?va8) rfl (by kernel_rfl) (by kernel_rfl) (fun _ _ _ h => h) (⟨f0, f1, f8⟩) (Or.inl ⟨by rfl, ?ya8⟩) ?ra8
          case ya8 => intro w hSw; obtain ⟨hw0, hw1, hw8⟩ := hSw; (try dsimp only at hSw); go_simp; try rfl
          case' ra8 => try simp only [List.getElem_toArray, List.getElem_cons_succ, List.getElem_cons_zero, Act.put, List.setIfInBounds_toArray, List.set_cons_zero, List.set_cons_succ]
          refine free_take 9 (v := ?va9) rfl (by kernel_rfl) (by kernel_rfl) (fun _ _ _ h => h) (⟨f0, f1, f8⟩) (Or.inl ⟨by rfl, ?ya9⟩) ?ra9
          case ya9 => intro w hSw; obtain ⟨hw0, hw1, hw8⟩ := hSw; (try dsimp only at hSw); go_simp; try rfl
          case' ra9 => try simp only [List.getElem_toArray, List.getElem_cons_succ, List.getElem_cons_zero, Act.put, List.setIfInBounds_toArray, List.set_cons_zero, List.set_cons_succ]
          refine free_take 10 (v := ?va10) rfl (by kernel_rfl) (by kernel_rfl) (fun _ _ _ h => h) (⟨f0, f1, f8⟩) (Or.inl ⟨by rfl, ?ya10⟩) ?ra10
          case ya10 => intro w hSw; obtain ⟨hw0, hw1, hw8⟩ := hSw; (try dsimp only at hSw); go_simp; try rfl
          case' ra10 => try simp only [List.getElem_toArray, List.getElem_cons_succ, List.getElem_cons_zero, Act.put, List.setIfInBounds_toArray, List.set_cons_zero, List.set_cons_succ]
          refine free_take 11 (v := ?va11) rfl (by kernel_rfl) (by kernel_rfl) (fun _ _ _ h => h) (⟨f0, f1, f8⟩) (Or.inl ⟨by rfl, ?ya11⟩) ?ra11
          case ya11 => intro w hSw; obtain ⟨hw0, hw1, hw8⟩ := hSw; (try dsimp only at hSw); go_simp; try rfl
          case' ra11 => try simp only [List.getElem_toArray, List.getElem_cons_succ, List.getElem_cons_zero, Act.put, List.setIfInBounds_toArray, List.set_cons_zero, List.set_cons_succ]
          refine free_take 12 (v := ?va12) rfl (by kernel_rfl) (by kernel_rfl) (fun _ _ _ h => h) (⟨f0, f1, f8⟩) (Or.inl ⟨by rfl, ?ya12⟩) ?ra12
          case ya12 => intro w hSw; obtain ⟨hw0, hw1, hw8⟩ := hSw; (try dsimp only at hSw); go_simp; try rfl
          case' ra12 => try simp only [List.getElem_toArray, List.getElem_cons_succ, List.getElem_cons_zero, Act.put, List.setIfInBounds_toArray, List.set_cons_zero, List.set_cons_succ]
          refine free_take 13 (v := ?va13) rfl (by kernel_rfl) (by kernel_rfl) (fun _ _ _ h => h) (⟨f0, f1, f8⟩) (Or.inl ⟨by rfl, ?ya13⟩) ?ra13
          case ya13 => intro w hSw; obtain ⟨hw0, hw1, hw8⟩ := hSw; (try dsimp only at hSw); go_simp; try rfl
          case' ra13 => try simp only [List.getElem_toArray, List.getElem_cons_succ, List.getElem_cons_zero, Act.put, List.setIfInBounds_toArray, List.set_cons_zero, List.set_cons_succ]
          refine free_take 14 (v := ?va14) rfl (by kernel_rfl) (by kernel_rfl) (fun _ _ _ h => h) (⟨f0, f1, f8⟩) (Or.inl ⟨by rfl, ?ya14⟩) ?ra14
          case ya14 => intro w hSw; obtain ⟨hw0, hw1, hw8⟩ := hSw; (try dsimp only at hSw); go_simp; try rfl
          case' ra14 => try simp only [List.getElem_toArray, List.getElem_cons_succ, List.getElem_cons_zero, Act.put, List.setIfInBounds_toArray, List.set_cons_zero, List.set_cons_succ]
          refine free_take 15 (v := ?va15) rfl (by kernel_rfl) (by kernel_rfl) (fun _ _ _ h => h) (⟨f0, f1, f8⟩) (Or.inl ⟨by rfl, ?ya15⟩) ?ra15
          case ya15 => intro w hSw; obtain ⟨hw0, hw1, hw8⟩ := hSw; (try dsimp only at hSw); go_simp; try rfl
          case' ra15 => try simp only [List.getElem_toArray, List.getElem_cons_succ, List.getElem_cons_zero, Act.put, List.setIfInBounds_toArray, List.set_cons_zero, List.set_cons_succ]
          trace "J"
          refine free_step 16 rfl (by kernel_rfl) (fun K hK => ?st)
          case st =>
            rw [if_pos (by kernel_rfl)]
            trace "K"
            have hQL : (layQ file (have_.take i) a data).length = long := by rw [layQ_len, HFL.out, HDL.out]; exact hlong
            have hFV := HMF.out
            have hcl : (bvs ((file.take r).drop p)).length = Nat.min (r - p) (r - p) := by rw [bvs_length, List.length_drop, List.length_take, HFL.out]; show min r fn - p = min (r - p) (r - p); omega
            refine wp_copy_row (.tmp 47) (.tmp 57) 23 23 rfl 5 Try.underlying23 hsz1 fb p (r - p) (long - p) ⟨fb1, fof + p, none⟩ (r - p) (fc - p) ?e1 ?e2 (bvs (layQ file (have_.take i) a data)).toArray 5 k0a (bvs ((file.take r).drop p)) hcl ?src ?fit (bvs_one _) ?go
            case e1 =>
              show Value.slice (if long = p then some ⟨w.heap.size, 0, none⟩ else some ⟨w.heap.size, p, none⟩) (r - p) (long - p) = _
              rw [if_neg (by omega), HFB.out]
            case e2 =>
              show Value.slice (if fc = p then some ⟨fb1, fof, none⟩ else some ⟨fb1, fof + p, none⟩) (r - p) (fc - p) = _
              rw [if_neg (by omega)]
            case src =>
              intro j v hv
              rw [Addr.add_lit]
              have e : bvs ((file.take r).drop p) = ((bvs file).take r).drop p := by simp [bvs, List.map_take, List.map_drop]
              rw [e, List.getElem?_drop, List.getElem?_take] at hv
              have hv2 : (bvs file)[p + j]? = some v := by
                split at hv
                · exact hv
                · cases hv
              have h3 := hFV.cell hv2
              rw [← Nat.add_assoc] at h3
              exact h3
            case fit => rw [hcl]; simp [bvs_length, hQL]; omega
            case go =>
              trace "L"
              have e : ((bvs (layQ file (have_.take i) a data)).toArray.toList.take p ++ (bvs ((file.take r).drop p) ++ (bvs (layQ file (have_.take i) a data)).toArray.toList.drop (p + (bvs ((file.take r).drop p)).length))).toArray = (bvs (layQ file (have_.take (i + 1)) a data)).toArray := by
                rw [HTK.out, layQ_snoc (by omega) (by rw [HFL.out]; omega), bvs_append, bvs_append, List.append_assoc, hcl, show p + Nat.min (r - p) (r - p) = r by show p + min (r - p) (r - p) = r; omega]
                simp [bvs, List.map_take, List.map_drop]
              rw [e]
              clear e hcl
              have k0b := k0a.row (bvs (layQ file (have_.take (i + 1)) a data)).toArray
              have hBb := below_row hBa (show w.heap.size ≤ fb by rw [HFB.out]; exact Nat.le_refl _) (bvs (layQ file (have_.take (i + 1)) a data)).toArray
              have kxb := kx.farRow (g := fb) (by omega) (bvs (layQ file (have_.take (i + 1)) a data)).toArray
              have kqb := kqa.farRow (g := fb) (by have := HFB.out; omega) (bvs (layQ file (have_.take (i + 1)) a data)).toArray
              refine hK _ _ ⟨kxb.cell' (i := 0) rfl, kxb.cell' (i := 1) rfl, kqb.cell' (i := 8) rfl⟩ ?_
              clear hK K f0 f1 f8 k0a hBa kx kqa HMF hFV hQL
              generalize V.setRow fb (bvs (layQ file (have_.take (i + 1)) a data)).toArray = V2 at *
              try simp only [List.getElem_toArray, List.getElem_cons_succ, List.getElem_cons_zero, Act.put, List.setIfInBounds_toArray, List.set_cons_zero, List.set_cons_succ]
              refine free_end (by kernel_rfl) ?_
              trace "M"
              go_wp2_with fail
              trace "N"
              go_roundw
              case rel => exact ⟨i + 1, by omega, by go_num, k0b, hBb⟩
              case measure => simp [intOf]; omega
        ·
          obtain rfl : an = i := by omega
          have h5i : ¬ (an : Int) < (an : Int) := by omega
          have hLF : Hid (layQ file (have_.take an) a data = layF file have_ a data) := Lib.hid (by rw [List.take_of_length_le (by rw [HHL.out]; exact Nat.le_refl _), layQ_end])
          have hLL : Hid ((layF file have_ a data).length = long) := Lib.hid (by rw [← layQ_end, layQ_len, HFL.out, HDL.out]; exact hlong)
          rw [hLF.out] at k0
          obtain rfl := HFB.out
          clear HFB hLF
          have hM1 := (HM.out.step hB).turnQ kq (by decide) (by decide) (by decide) ((Turned.refl wr (fun i => i = q)).set (p := ⟨q, 8, none⟩) (fun _ => rfl) (.slice (some ⟨w.heap.size, 0, none⟩) long long))
          have hB1 := (hB.mono hbase).setCell (p := ⟨q, 8, none⟩) hbq (.slice (some ⟨w.heap.size, 0, none⟩) long long)
          have hK1 : ∀ i, i < w.heap.size → i ≠ q → (wr.setCell ⟨q, 8, none⟩ (.slice (some ⟨w.heap.size, 0, none⟩) long long)).heap[i]? = w.heap[i]? := fun i hi hq => (Below.heap_setCell wr ⟨q, 8, none⟩ _ i hq).trans (hB.block i hi)
          have kq1 := kq.set_ 8 (.slice (some ⟨w.heap.size, 0, none⟩) long long)
          have k01 := k0.far (p := ⟨q, 8, none⟩) (show w.heap.size ≠ q by omega) (.slice (some ⟨w.heap.size, 0, none⟩) long long)
          have kf := kq.frozen
          have x8 := kq.cell' (i := 8) rfl
          go_upto_region 9 with fail
          trace "P"
          clear kf x8 kq k0 hB
          generalize wr.setCell ⟨q, 8, none⟩ (.slice (some ⟨w.heap.size, 0, none⟩) long long) = V at *
          obtain ⟨m0, hm0⟩ : ∃ m0, V.heap.size = m0 := ⟨_, rfl⟩
          have hm0w : w.heap.size < m0 := by have := k01.lt; omega
          have hm0q : q < m0 := by omega
          have HFO : Hid (Own V base 5 1 (some ⟨w.heap.size, 0, none⟩) long long (bvs (layF file have_ a data))) := Lib.hid (Own.of_block k01 hbase (by rw [bvs_length, hLL.out, Nat.mul_one]) (Nat.le_refl _) (by unfold maxLen; omega) (by simp [bvs_length, hLL.out]) (fun i u h => by simpa using h))
          have HAV := Lib.hid (show Rd V A (gps have_) from hM1.again.rd)
          have HM1 := Lib.hid hM1
          have HB1 := Lib.hid hB1
          have HK1 : Hid (∀ i, i < w.heap.size → i ≠ q → V.heap[i]? = w.heap[i]?) := Lib.hid hK1
          have x7 := kq1.cell' (i := 7) rfl
          clear hM1 hB1 hK1 k01
          have bm := Blk.new V 66 #[.int .i64 (a : Int), .int .i64 ((a : Int) + (dn : Int))]
          have hB := (Below.refl V.heap.size V).alloc (Nat.le_refl _) (.cells #[.int .i64 (a : Int), .int .i64 ((a : Int) + (dn : Int))] 66)
          have kqa := kq1.alloc (.cells #[.int .i64 (a : Int), .int .i64 ((a : Int) + (dn : Int))] 66)
          have z7 := kqa.cell' (i := 7) rfl
          have hOz : Own (V.alloc (.cells #[.int .i64 (a : Int), .int .i64 ((a : Int) + (dn : Int))] 66)) (m0 + 1) 66 2 none 0 0 (gps []) := Own.none_ _ _ _ _
          have hG0 : ∀ (k : Nat), blk none = some k → m0 + 1 ≤ k := fun k h => by simp [blk] at h
          go_wp2_with fail
          trace "Q"
          clear x7 z7 kqa
          rw [hm0] at bm
          have HM0 := Lib.hid hm0
          clear hm0
          go_loopw [10, 74] (fun hv iv wr => ∃ (i gn gc : Nat) (G : Option Addr) (acc : List (Int × Int)) (ma mz : Int), i ≤ an ∧ iv = .int .i64 (i : Int) ∧ hv = .slice G gn gc ∧ acc.length = gn ∧ gn ≤ i ∧ Blk wr m0 66 #[.int .i64 ma, .int .i64 mz] ∧ Own wr (m0 + 1) 66 2 G gn gc (gps acc) ∧ Below V.heap.size V wr ∧ Hid (layG have_ ((a : Int), (a : Int) + (dn : Int)) = acc ++ layG (have_.drop i) (ma, mz))) (fun hv iv _ => an - (intOf iv).toNat)
          case atStart => exact ⟨0, 0, 0, none, [], (a : Int), (a : Int) + (dn : Int), Nat.zero_le _, rfl, rfl, rfl, Nat.le_refl _, bm, hOz, hB, Lib.hid (by rw [List.drop_zero]; rfl)⟩
          case round =>
            clear bm hOz hB hG0
            obtain ⟨i, gn, gc, G, acc, ma, mz, hi, rfl, rfl, hacc, hgi, bm, hO, hB, HE⟩ := hrel
            trace "R"
            by_cases h5 : i < an
            ·
              have h5i : (i : Int) < (an : Int) := by omega
              have hip : (0 : Int) ≤ (i : Int) := by omega
              have hiL : i < have_.length := by rw [HHL.out]; exact h5
              obtain ⟨g, hg⟩ : ∃ g, have_[i]? = some g := ⟨_, List.getElem?_eq_getElem hiL⟩
              have hd : have_.drop i = g :: have_.drop (i + 1) := by
                rw [List.drop_eq_getElem_cons hiL]
                congr 1
                rw [List.getElem?_eq_getElem hiL] at hg
                exact Option.some.inj hg
              obtain ⟨rb, ro, rfl, y0, y1⟩ := rdgap_cells (HAV.out.below hB) hg
              have hrb : rb < wr.heap.size := World.block_lt_of_cell? _ _ y0
              obtain ⟨gp, gr⟩ := g
              dsimp only at y0 y1
              have HE1 : Hid (layG have_ ((a : Int), (a : Int) + (dn : Int)) = acc ++ layG ((gp, gr) :: have_.drop (i + 1)) (ma, mz)) := Lib.hid (by rw [HE.out, hd])
              clear hiL hg hd HE
              have hPG0 : blk G ≠ some wr.heap.size := fun h => by have := (hO.lt _ h).2; omega
              have zb1 : m0 < wr.heap.size := bm.lt
              have bs := Blk.new wr 66 #[.int .i64 gp, .int .i64 gr]
              replace bm := bm.alloc (.cells #[.int .i64 gp, .int .i64 gr] 66)
              replace hO := hO.alloc (.cells #[.int .i64 gp, .int .i64 gr] 66)
              replace hB := hB.alloc hB.size (.cells #[.int .i64 gp, .int .i64 gr] 66)
              go_upto_region 15 with fail
              trace "S"
              clear y0 y1
              obtain ⟨b1, hb1⟩ : ∃ b1, wr.heap.size = b1 := ⟨_, rfl⟩
              rw [hb1] at bs hPG0 zb1 ⊢
              have HGS := Lib.hid hPG0
              have hne1 : m0 ≠ b1 := by omega
              clear hb1 hPG0 hrb
              generalize wr.alloc (.cells #[.int .i64 gp, .int .i64 gr] 66) = V1 at *
              have s0 := bs.cell' (i := 0) rfl
              have s1 := bs.cell' (i := 1) rfl
              have m1 := bm.cell' (i := 0) rfl
              have m2 := bm.cell' (i := 1) rfl
              by_cases c1 : gr < ma
              ·
                have HE3 : Hid (layG have_ ((a : Int), (a : Int) + (dn : Int)) = (acc ++ [(gp, gr)]) ++ layG (have_.drop (i + 1)) (ma, mz)) := Lib.hid (by rw [HE1.out, layG_1 (s := (gp, gr)) c1, List.append_assoc]; rfl)
                clear HE1
                have hRn := Rd_lit V1 [.int .i64 gp, .int .i64 gr] 66
                have hone : Hid (∀ u ∈ ([.int .i64 gp, .int .i64 gr] : List Value), u.oneCell' = true) := Lib.hid (gps_one [(gp, gr)])
                have bm2 := bm.alloc (.cells #[.int .i64 gp, .int .i64 gr] 66)
                have bs2 := bs.alloc (.cells #[.int .i64 gp, .int .i64 gr] 66)
                have hO2 := hO.alloc (.cells #[.int .i64 gp, .int .i64 gr] 66)
                have hB2 := hB.alloc hB.size (.cells #[.int .i64 gp, .int .i64 gr] 66)
                have q4 : gn + 1 ≤ maxLen := by unfold maxLen; omega
                have q5 : (gn + 1) * 16 ≤ 140737488355328 := by omega
                have q6 := hB2.size
                have q7 : m0 + 1 ≤ (V1.alloc (.cells #[.int .i64 gp, .int .i64 gr] 66)).heap.size := by have := bm2.lt; omega
                have hpG : blk G ≠ some m0 := fun h => by have := (hO2.lt _ h).1; omega
                have hpS : blk G ≠ some b1 := HGS.out
                clear bm bs hO hB
                go_upto_region 20 with (at_builtin; refine wpList_append_Own (V1.alloc (.cells #[.int .i64 gp, .int .i64 gr] 66)) rfl (.tmp 95) (.tmp 97) 24 rfl (m0 + 1) 66 j0 _ 2 16 Try.underlying24 hj0 hy0 hy1 hy2 rfl G gn gc (gps acc) rfl hO2 (some ⟨V1.heap.size, 0, none⟩) 1 1 [.int .i64 gp, .int .i64 gr] rfl rfl hRn hone.out q4 q5 q7 ?_; intro G6 c6 w6 hO6 hg6 hor6)
                have bm6 := bm2.grown hg6 (fun e => hpG e.symm)
                have bs6 := bs2.grown hg6 (fun e => hpS e.symm)
                have hB6 := Below.grown' (A := G) hB2 hg6 hB2.size (fun k hk => by have := (hO2.lt k hk).1; have := HM0.out; omega)
                have hO7 : Own w6 (m0 + 1) 66 2 G6 (gn + 1) c6 (gps (acc ++ [(gp, gr)])) := by rw [gps_append2]; exact hO6
                clear hO6 hg6 hor6 hRn hO2 hB2 bm2 bs2
                trace "T1"
                go_wp2_with fail
                go_roundw
                case rel => exact ⟨i + 1, gn + 1, c6, G6, acc ++ [(gp, gr)], ma, mz, by omega, by go_num, rfl, by rw [List.length_append, hacc]; rfl, by omega, bm6, hO7, hB6, HE3⟩
                case measure => simp [intOf]; omega
              ·
                by_cases c2 : mz < gp
                ·
                  have HE3 : Hid (layG have_ ((a : Int), (a : Int) + (dn : Int)) = (acc ++ [(ma, mz)]) ++ layG (have_.drop (i + 1)) (gp, gr)) := Lib.hid (by rw [HE1.out, layG_2 (s := (gp, gr)) c1 c2, List.append_assoc]; rfl)
                  clear HE1
                  have hRn := Rd_lit V1 [.int .i64 ma, .int .i64 mz] 66
                  have hone : Hid (∀ u ∈ ([.int .i64 ma, .int .i64 mz] : List Value), u.oneCell' = true) := Lib.hid (gps_one [(ma, mz)])
                  have bm2 := bm.alloc (.cells #[.int .i64 ma, .int .i64 mz] 66)
                  have bs2 := bs.alloc (.cells #[.int .i64 ma, .int .i64 mz] 66)
                  have hO2 := hO.alloc (.cells #[.int .i64 ma, .int .i64 mz] 66)
                  have hB2 := hB.alloc hB.size (.cells #[.int .i64 ma, .int .i64 mz] 66)
                  have q4 : gn + 1 ≤ maxLen := by unfold maxLen; omega
                  have q5 : (gn + 1) * 16 ≤ 140737488355328 := by omega
                  have q6 := hB2.size
                  have q7 : m0 + 1 ≤ (V1.alloc (.cells #[.int .i64 ma, .int .i64 mz] 66)).heap.size := by have := bm2.lt; omega
                  have hpG : blk G ≠ some m0 := fun h => by have := (hO2.lt _ h).1; omega
                  have hpS : blk G ≠ some b1 := HGS.out
                  clear bm bs hO hB
                  go_upto_region 19 with (at_builtin; refine wpList_append_Own (V1.alloc (.cells #[.int .i64 ma, .int .i64 mz] 66)) rfl (.tmp 105) (.tmp 107) 24 rfl (m0 + 1) 66 j0 _ 2 16 Try.underlying24 hj0 hy0 hy1 hy2 rfl G gn gc (gps acc) rfl hO2 (some ⟨V1.heap.size, 0, none⟩) 1 1 [.int .i64 ma, .int .i64 mz] rfl rfl hRn hone.out q4 q5 q7 ?_; intro G6 c6 w6 hO6 hg6 hor6)
                  have bm6 := bm2.grown hg6 (fun e => hpG e.symm)
                  have bs6 := bs2.grown hg6 (fun e => hpS e.symm)
                  have hB6 := Below.grown' (A := G) hB2 hg6 hB2.size (fun k hk => by have := (hO2.lt k hk).1; have := HM0.out; omega)
                  have hO7 : Own w6 (m0 + 1) 66 2 G6 (gn + 1) c6 (gps (acc ++ [(ma, mz)])) := by rw [gps_append2]; exact hO6
                  clear hO6 hg6 hor6 hRn hO2 hB2 bm2 bs2
                  trace "T2"
                  clear s0 s1 m1 m2
                  have s0 := bs6.cell' (i := 0) rfl
                  have s1 := bs6.cell' (i := 1) rfl
                  have m1 := bm6.cell' (i := 0) rfl
                  have m2 := bm6.cell' (i := 1) rfl
                  have mf := bm6.frozen
                  have hne7 : ∀ (j : Nat), blk G6 ≠ some (⟨m0, j, none⟩ : Addr).block := fun j h => by have h2 : blk G6 = some m0 := h; have := (hO7.lt m0 h2).1; omega
                  go_upto_region 20 with fail
                  trace "T3"
                  clear s0 s1 m1 m2 mf
                  have bm8 := (bm6.set_ 0 (.int .i64 gp)).set_ 1 (.int .i64 gr)
                  have hO8 := (hO7.setFar (hne7 0) (.int .i64 gp)).setFar (hne7 1) (.int .i64 gr)
                  have hB8 := (hB6.setCell (p := ⟨m0, 0, none⟩) (by show V.heap.size ≤ m0; rw [HM0.out]; exact Nat.le_refl _) (.int .i64 gp)).setCell (p := ⟨m0, 1, none⟩) (by show V.heap.size ≤ m0; rw [HM0.out]; exact Nat.le_refl _) (.int .i64 gr)
                  go_wp2_with fail
                  go_roundw
                  case rel => exact ⟨i + 1, gn + 1, c6, G6, acc ++ [(ma, mz)], gp, gr, by omega, by go_num, rfl, by rw [List.length_append, hacc]; rfl, by omega, bm8, hO8, hB8, HE3⟩
                  case measure => simp [intOf]; omega
                ·
                  have HE3 : Hid (layG have_ ((a : Int), (a : Int) + (dn : Int)) = acc ++ layG (have_.drop (i + 1)) (min ma gp, max mz gr)) := Lib.hid (by rw [HE1.out, layG_3 (s := (gp, gr)) c1 c2])
                  clear HE1
                  obtain ⟨na, hna⟩ : ∃ na, min ma gp = na := ⟨_, rfl⟩
                  obtain ⟨nz, hnz⟩ : ∃ nz, max mz gr = nz := ⟨_, rfl⟩
                  rw [hna, hnz] at HE3
                  have mf := bm.frozen
                  have hne7 : ∀ (j : Nat), blk G ≠ some (⟨m0, j, none⟩ : Addr).block := fun j h => by have h2 : blk G = some m0 := h; have := (hO.lt m0 h2).1; omega
                  have bm8 := (bm.set_ 0 (.int .i64 na)).set_ 1 (.int .i64 nz)
                  have hO8 := (hO.setFar (hne7 0) (.int .i64 na)).setFar (hne7 1) (.int .i64 nz)
                  have hB8 := (hB.setCell (p := ⟨m0, 0, none⟩) (by show V.heap.size ≤ m0; rw [HM0.out]; exact Nat.le_refl _) (.int .i64 na)).setCell (p := ⟨m0, 1, none⟩) (by show V.heap.size ≤ m0; rw [HM0.out]; exact Nat.le_refl _) (.int .i64 nz)
                  by_cases d1 : ma ≤ gp
                  ·
                    obtain rfl : ma = na := by omega
                    have d5 : ¬ gp < ma := by omega
                    by_cases d2 : mz < gr
                    ·
                      obtain rfl : gr = nz := by omega
                      clear hna hnz
                      go_wp2_with fail
                      trace "U1"
                      go_roundw
                      case rel => exact ⟨i + 1, gn, gc, G, acc, ma, gr, by omega, by go_num, rfl, hacc, by omega, bm8, hO8, hB8, HE3⟩
                      case measure => simp [intOf]; omega
                    ·
                      obtain rfl : mz = nz := by omega
                      have d3 : gr ≤ mz := by omega
                      clear hna hnz
                      go_wp2_with fail
                      trace "U2"
                      go_roundw
                      case rel => exact ⟨i + 1, gn, gc, G, acc, ma, mz, by omega, by go_num, rfl, hacc, by omega, bm8, hO8, hB8, HE3⟩
                      case measure => simp [intOf]; omega
                  ·
                    obtain rfl : gp = na := by omega
                    have d5 : gp < ma := by omega
                    have d4 : gp ≤ ma := by omega
                    by_cases d2 : mz < gr
                    ·
                      obtain rfl : gr = nz := by omega
                      clear hna hnz
                      go_wp2_with fail
                      trace "U3"
                      go_roundw
                      case rel => exact ⟨i + 1, gn, gc, G, acc, gp, gr, by omega, by go_num, rfl, hacc, by omega, bm8, hO8, hB8, HE3⟩
                      case measure => simp [intOf]; omega
                    ·
                      obtain rfl : mz = nz := by omega
                      have d3 : gr ≤ mz := by omega
                      clear hna hnz
                      go_wp2_with fail
                      trace "U4"
                      go_roundw
                      case rel => exact ⟨i + 1, gn, gc, G, acc, gp, mz, by omega, by go_num, rfl, hacc, by omega, bm8, hO8, hB8, HE3⟩
                      case measure => simp [intOf]; omega
            ·
              obtain rfl : an = i := by omega
              have h5i : ¬ (an : Int) < (an : Int) := by omega
              have HEE : Hid (layG have_ ((a : Int), (a : Int) + (dn : Int)) = acc ++ [(ma, mz)]) := Lib.hid (by rw [HE.out, List.drop_eq_nil_of_le (by rw [HHL.out]; exact Nat.le_refl _)]; rfl)
              clear HE
              go_upto_region 21 with fail
              trace "W"
              have m1 := bm.cell' (i := 0) rfl
              have m2 := bm.cell' (i := 1) rfl
              have hRn := Rd_lit wr [.int .i64 ma, .int .i64 mz] 66
              have hone : Hid (∀ u ∈ ([.int .i64 ma, .int .i64 mz] : List Value), u.oneCell' = true) := Lib.hid (gps_one [(ma, mz)])
              have bm2 := bm.alloc (.cells #[.int .i64 ma, .int .i64 mz] 66)
              have hO2 := hO.alloc (.cells #[.int .i64 ma, .int .i64 mz] 66)
              have hB2 := hB.alloc hB.size (.cells #[.int .i64 ma, .int .i64 mz] 66)
              have q4 : gn + 1 ≤ maxLen := by unfold maxLen; omega
              have q5 : (gn + 1) * 16 ≤ 140737488355328 := by omega
              have q7 : m0 + 1 ≤ (wr.alloc (.cells #[.int .i64 ma, .int .i64 mz] 66)).heap.size := by have := bm2.lt; omega
              have hpG : blk G ≠ some m0 := fun h => by have := (hO2.lt _ h).1; omega
              go_wp2_with (at_builtin; refine wpList_append_Own (wr.alloc (.cells #[.int .i64 ma, .int .i64 mz] 66)) rfl (.tmp 112) (.tmp 114) 24 rfl (m0 + 1) 66 j0 _ 2 16 Try.underlying24 hj0 hy0 hy1 hy2 rfl G gn gc (gps acc) rfl hO2 (some ⟨wr.heap.size, 0, none⟩) 1 1 [.int .i64 ma, .int .i64 mz] rfl rfl hRn hone.out q4 q5 q7 ?_; intro G6 c6 w6 hO6 hg6 hor6; have hB6 := Below.grown' (A := G) hB2 hg6 hB2.size (fun k hk => by have := (hO2.lt k hk).1; have := HM0.out; omega); have kq6 := kq1.step hB6; have kf := kq6.frozen; have x7 := kq6.cell' (i := 7) rfl)
              trace "Y"
              have hM6 := (HM1.out.step hB6).turnQ kq6 (by decide) (by decide) (by decide) ((Turned.refl w6 (fun i => i = q)).set (p := ⟨q, 7, none⟩) (fun _ => rfl) (.slice G6 (gn + 1) c6))
              have hqG : blk G6 ≠ some (⟨q, 7, none⟩ : Addr).block := fun h => by have h2 : blk G6 = some q := h; have := (hO6.lt q h2).1; omega
              have hO9 : Own (w6.setCell ⟨q, 7, none⟩ (.slice G6 (gn + 1) c6)) base 66 2 G6 (gn + 1) c6 (gps (layG have_ ((a : Int), (a : Int) + (dn : Int)))) := by
                have h := (hO6.setFar hqG (.slice G6 (gn + 1) c6)).mono (base' := base) (by omega)
                rw [HEE.out, gps_append2]
                exact h
              have hFz : blk (some (⟨w.heap.size, 0, none⟩ : Addr)) ≠ some (⟨q, 7, none⟩ : Addr).block := fun h => by have h2 : w.heap.size = q := Option.some.inj h; omega
              have hF9 := ((HFO.out).step hB6).setFar hFz (.slice G6 (gn + 1) c6)
              have kq9 := kq6.set_ 7 (.slice G6 (gn + 1) c6)
              have hB9 := (HB1.out.trans (hB6.mono (by have := HM0.out; omega))).setCell (p := ⟨q, 7, none⟩) hbq (.slice G6 (gn + 1) c6)
              have hM9 := hM6.lays (f' := layF file have_ a data) (a' := layG have_ ((a : Int), (a : Int) + (dn : Int))) hLL.out (by rw [HEE.out, List.length_append, hacc]; rfl) hF9 hO9 (fun j y hj k hk e => by
                have := (HM.out.parts.ltD hj hk).2
                have h2 : w.heap.size = k := Option.some.inj e
                omega) (fun j y hj k hk e => by
                have := (HM.out.parts.ltG hj hk).2
                have h2 := (hO6.lt k e).1
                omega)
              clear kf x7
              go_end0
              exact ⟨some ⟨w.heap.size, 0, none⟩, long, long, G6, gn + 1, c6, rfl, kq9, hM9, hB9, fun i hi hiq => (Below.heap_setCell w6 ⟨q, 7, none⟩ _ i hiq).trans ((hB6.block i (by rw [HM0.out]; omega)).trans (HK1.out i hi hiq))⟩
end Go.Proofs.Ytianombjgdmbeaa
