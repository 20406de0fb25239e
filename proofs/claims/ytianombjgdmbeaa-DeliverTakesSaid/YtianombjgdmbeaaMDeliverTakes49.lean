/-
  A note comes to a taker, by the document (TakeOf): bytes come, and there is nothing to judge but the length.
-/
import Derived.Test.YtianombjgdmbeaaMDeliverTakes47
namespace Go.Proofs.Ytianombjgdmbeaa
set_option linter.unusedSimpArgs false
set_option linter.unusedVariables false
open Go.RowKit

set_option maxHeartbeats 12800000 in
set_option maxRecDepth 100000 in
theorem takeOf_goA (x : Tk) (F : Option Addr) (fn fc : Nat) (A : Option Addr) (an ac : Nat) (n : Nt) (D : Option Addr) (dn dc : Nat) (G : Option Addr) (gn gc : Nat) (y : Tk) (ns : List Nt) (k : Int) (w : World) (hr : takeR x n = (y, ns, k)) (hf : x.file.length = fn) (ha : x.have_.length = an) (hF : Rd w F (bvs x.file)) (hA : Rd w A (gps x.have_)) (hfn : fn ≤ 140737488351232) (han : an ≤ 8796093022200) (hd : n.data.length = dn) (hg : n.gaps.length = gn) (hD : Rd w D (bvs n.data)) (hG : Rd w G (gps n.gaps)) (hdn : dn ≤ 140737488351232) (hgn : gn ≤ 8796093022200) (hst : GoOk x n) (hj : ¬ GoJ (comesT { x with timer := 0, tries := 0 } n)) :
    Calls Try.prog 35 #[tvv x F fn fc A an ac, ntv n D dn dc G gn gc] w fun e w' => TkRes w w' y ns k e := by
  have HR := Lib.hid hr
  have CM := Lib.hid (fun (V : World) (hB : Below w.heap.size w V) => takerMay_any x A an ac F fn fc V ha hf (hA.below hB) (hF.below hB) han hfn)
  have CO := Lib.hid (fun (V : World) (hB : Below w.heap.size w V) => takerOf_v x F fn fc A an ac V hf ha (hF.below hB) (hA.below hB) hfn han)
  have CN := Lib.hid (fun (V : World) (hB : Below w.heap.size w V) => noteMay_any n D dn dc G gn gc V hd hg (hG.below hB) hdn hgn)
  obtain ⟨r1, hr1⟩ : ∃ r1, tkOk x = r1 := ⟨_, rfl⟩
  obtain ⟨r2, hr2⟩ : ∃ r2, noteOk n = r2 := ⟨_, rfl⟩
  rw [hr1] at CM
  rw [hr2] at CN
  have H1 := Lib.hid hr1
  have H2 := Lib.hid hr2
  have HFL := Lib.hid hf
  have HHL := Lib.hid ha
  have HDL := Lib.hid hd
  have HD := Lib.hid hD
  clear hr hr1 hr2 hf ha hF hA hd hg hD hG
  obtain ⟨id, known, name, size, ended, last, sum, have_, file, stage, timer, patience, tries, limit⟩ := x
  obtain ⟨nk, nid, nn, ns_, nsum, nat_, nd, ng, nof, ncode⟩ := n
  unfold tvv tkv tkc ntv
  unfold tkv tkc at CM
  unfold tvv tkv tkc at CO
  unfold ntv at CN
  dsimp only at CM CO CN H1 H2 HFL HHL HDL HD ⊢
  have bx := ((Blk.new w 44 #[.int .i64 id, .bool known, .string name, .int .i64 size, .bool ended, .int .i64 last, .int .i64 sum, .slice A an ac, .slice F fn fc, .int .i64 stage, .int .i64 timer, .int .i64 patience, .int .i64 tries, .int .i64 limit]).alloc (.cells #[.int .i64 nk, .int .i64 nid, .string nn, .int .i64 ns_, .int .i64 nsum, .int .i64 nat_, .slice D dn dc, .slice G gn gc, .int .i64 nof, .int .i64 ncode] 27)).alloc (.cells #[.int .i64 0, .bool false, .string ⟨#[]⟩, .int .i64 0, .bool false, .int .i64 0, .int .i64 0, .slice none 0 0, .slice none 0 0, .int .i64 0, .int .i64 0, .int .i64 0, .int .i64 0, .int .i64 0] 44)
  have bn := (Blk.new (w.alloc (.cells #[.int .i64 id, .bool known, .string name, .int .i64 size, .bool ended, .int .i64 last, .int .i64 sum, .slice A an ac, .slice F fn fc, .int .i64 stage, .int .i64 timer, .int .i64 patience, .int .i64 tries, .int .i64 limit] 44)) 27 #[.int .i64 nk, .int .i64 nid, .string nn, .int .i64 ns_, .int .i64 nsum, .int .i64 nat_, .slice D dn dc, .slice G gn gc, .int .i64 nof, .int .i64 ncode]).alloc (.cells #[.int .i64 0, .bool false, .string ⟨#[]⟩, .int .i64 0, .bool false, .int .i64 0, .int .i64 0, .slice none 0 0, .slice none 0 0, .int .i64 0, .int .i64 0, .int .i64 0, .int .i64 0, .int .i64 0] 44)
  have br := Blk.new ((w.alloc (.cells #[.int .i64 id, .bool known, .string name, .int .i64 size, .bool ended, .int .i64 last, .int .i64 sum, .slice A an ac, .slice F fn fc, .int .i64 stage, .int .i64 timer, .int .i64 patience, .int .i64 tries, .int .i64 limit] 44)).alloc (.cells #[.int .i64 nk, .int .i64 nid, .string nn, .int .i64 ns_, .int .i64 nsum, .int .i64 nat_, .slice D dn dc, .slice G gn gc, .int .i64 nof, .int .i64 ncode] 27)) 44 #[.int .i64 0, .bool false, .string ⟨#[]⟩, .int .i64 0, .bool false, .int .i64 0, .int .i64 0, .slice none 0 0, .slice none 0 0, .int .i64 0, .int .i64 0, .int .i64 0, .int .i64 0, .int .i64 0]
  rw [show (w.alloc (.cells #[.int .i64 id, .bool known, .string name, .int .i64 size, .bool ended, .int .i64 last, .int .i64 sum, .slice A an ac, .slice F fn fc, .int .i64 stage, .int .i64 timer, .int .i64 patience, .int .i64 tries, .int .i64 limit] 44)).heap.size = w.heap.size + 1 by simp] at bn
  rw [show ((w.alloc (.cells #[.int .i64 id, .bool known, .string name, .int .i64 size, .bool ended, .int .i64 last, .int .i64 sum, .slice A an ac, .slice F fn fc, .int .i64 stage, .int .i64 timer, .int .i64 patience, .int .i64 tries, .int .i64 limit] 44)).alloc (.cells #[.int .i64 nk, .int .i64 nid, .string nn, .int .i64 ns_, .int .i64 nsum, .int .i64 nat_, .slice D dn dc, .slice G gn gc, .int .i64 nof, .int .i64 ncode] 27)).heap.size = w.heap.size + 2 by simp] at br
  have hB : Below w.heap.size w (((w.alloc (.cells #[.int .i64 id, .bool known, .string name, .int .i64 size, .bool ended, .int .i64 last, .int .i64 sum, .slice A an ac, .slice F fn fc, .int .i64 stage, .int .i64 timer, .int .i64 patience, .int .i64 tries, .int .i64 limit] 44)).alloc (.cells #[.int .i64 nk, .int .i64 nid, .string nn, .int .i64 ns_, .int .i64 nsum, .int .i64 nat_, .slice D dn dc, .slice G gn gc, .int .i64 nof, .int .i64 ncode] 27)).alloc (.cells #[.int .i64 0, .bool false, .string ⟨#[]⟩, .int .i64 0, .bool false, .int .i64 0, .int .i64 0, .slice none 0 0, .slice none 0 0, .int .i64 0, .int .i64 0, .int .i64 0, .int .i64 0, .int .i64 0] 44)) := (((Below.refl _ _).alloc (Nat.le_refl _) _).alloc (by simp) _).alloc (by simp; omega) _
  go_enter Try.func35, Try.ntmps35
  go_upto_region 1 with fail
  generalize ((w.alloc (.cells #[.int .i64 id, .bool known, .string name, .int .i64 size, .bool ended, .int .i64 last, .int .i64 sum, .slice A an ac, .slice F fn fc, .int .i64 stage, .int .i64 timer, .int .i64 patience, .int .i64 tries, .int .i64 limit] 44)).alloc (.cells #[.int .i64 nk, .int .i64 nid, .string nn, .int .i64 ns_, .int .i64 nsum, .int .i64 nat_, .slice D dn dc, .slice G gn gc, .int .i64 nof, .int .i64 ncode] 27)).alloc (.cells #[.int .i64 0, .bool false, .string ⟨#[]⟩, .int .i64 0, .bool false, .int .i64 0, .int .i64 0, .slice none 0 0, .slice none 0 0, .int .i64 0, .int .i64 0, .int .i64 0, .int .i64 0, .int .i64 0] 44) = W at *
  go_wp2_with (refine wpList_load_row rfl 44 (.tmp 2) rfl w.heap.size rfl 44 #[.int .i64 id, .bool known, .string name, .int .i64 size, .bool ended, .int .i64 last, .int .i64 sum, .slice A an ac, .slice F fn fc, .int .i64 stage, .int .i64 timer, .int .i64 patience, .int .i64 tries, .int .i64 limit] (0, 0) _ bx Try.underlying44 rfl takersz ?_)
  refine (CM.out _ hB).mono ?_
  rintro e w1 ⟨rfl, hb⟩
  replace bx := bx.step hb
  replace br := br.step hb
  replace bn := bn.step hb
  replace hB := hB.trans (hb.mono hB.size)
  clear hb CM
  cases r1
  ·
    exact absurd hst.1 (by rw [H1.out]; decide)
  trace "A"
  go_wp2_with (refine wpList_load_row rfl 44 (.tmp 2) rfl w.heap.size rfl 44 #[.int .i64 id, .bool known, .string name, .int .i64 size, .bool ended, .int .i64 last, .int .i64 sum, .slice A an ac, .slice F fn fc, .int .i64 stage, .int .i64 timer, .int .i64 patience, .int .i64 tries, .int .i64 limit] (0, 0) _ bx Try.underlying44 rfl takersz ?_)
  refine (CO.out _ hB).mono ?_
  rintro e w2 ⟨F1, f1, A1, a1, rfl, hF, hA, hb⟩
  have zr := br.lt
  have zb := hb.size
  replace br := br.step hb
  replace bn := bn.step hb
  replace hB := hB.trans (hb.mono hB.size)
  replace hF := hF.mono (base' := w.heap.size + 3) (by omega)
  replace hA := hA.mono (base' := w.heap.size + 3) (by omega)
  have hM : GvMem w2 (w.heap.size + 3) (pg (⟨id, known, name, size, ended, last, sum, have_, file, stage, timer, patience, tries, limit⟩ : Tk)) [] F1 fn f1 A1 an a1 none 0 0 [] := GvMem.none HFL.out HHL.out hF hA
  clear hb CO bx hF hA
  go_upto_region 4 with fail
  have bq := Blk.new w2 44 #[.int .i64 id, .bool known, .string name, .int .i64 size, .bool ended, .int .i64 last, .int .i64 sum, .slice A1 an a1, .slice F1 fn f1, .int .i64 stage, .int .i64 timer, .int .i64 patience, .int .i64 tries, .int .i64 limit]
  replace br := br.alloc (.cells #[.int .i64 id, .bool known, .string name, .int .i64 size, .bool ended, .int .i64 last, .int .i64 sum, .slice A1 an a1, .slice F1 fn f1, .int .i64 stage, .int .i64 timer, .int .i64 patience, .int .i64 tries, .int .i64 limit] 44)
  replace bn := bn.alloc (.cells #[.int .i64 id, .bool known, .string name, .int .i64 size, .bool ended, .int .i64 last, .int .i64 sum, .slice A1 an a1, .slice F1 fn f1, .int .i64 stage, .int .i64 timer, .int .i64 patience, .int .i64 tries, .int .i64 limit] 44)
  replace hM := hM.step ((Below.refl w2.heap.size w2).alloc (Nat.le_refl _) (.cells #[.int .i64 id, .bool known, .string name, .int .i64 size, .bool ended, .int .i64 last, .int .i64 sum, .slice A1 an a1, .slice F1 fn f1, .int .i64 stage, .int .i64 timer, .int .i64 patience, .int .i64 tries, .int .i64 limit] 44))
  replace hB := hB.alloc hB.size (.cells #[.int .i64 id, .bool known, .string name, .int .i64 size, .bool ended, .int .i64 last, .int .i64 sum, .slice A1 an a1, .slice F1 fn f1, .int .i64 stage, .int .i64 timer, .int .i64 patience, .int .i64 tries, .int .i64 limit] 44)
  obtain ⟨q, hq⟩ : ∃ q, w2.heap.size = q := ⟨_, rfl⟩
  rw [hq] at bq zb ⊢
  have hrq : w.heap.size + 2 ≠ q := by omega
  have hnq : w.heap.size + 1 ≠ q := by omega
  have hq3 : w.heap.size + 3 ≤ q := by omega
  clear hq
  generalize w2.alloc (.cells #[.int .i64 id, .bool known, .string name, .int .i64 size, .bool ended, .int .i64 last, .int .i64 sum, .slice A1 an a1, .slice F1 fn f1, .int .i64 stage, .int .i64 timer, .int .i64 patience, .int .i64 tries, .int .i64 limit] 44) = V0 at *
  trace "B"
  cases r2
  ·
    exact absurd hst.2.1 (by rw [H2.out]; decide)
  go_wp2_with (refine wpList_load_row rfl 27 (.tmp 3) rfl (w.heap.size + 1) rfl 27 #[.int .i64 nk, .int .i64 nid, .string nn, .int .i64 ns_, .int .i64 nsum, .int .i64 nat_, .slice D dn dc, .slice G gn gc, .int .i64 nof, .int .i64 ncode] (0, 0) _ bn Try.underlying27 rfl notesz ?_)
  refine (CN.out _ hB).mono ?_
  rintro e w3 ⟨rfl, hb⟩
  replace br := br.step hb
  replace bn := bn.step hb
  replace bq := bq.step hb
  replace hM := hM.step hb
  replace hB := hB.trans (hb.mono hB.size)
  clear hb CN
  have n1 := bn.cell' (i := 1) rfl
  have x0 := bq.cell' (i := 0) rfl
  by_cases hid : nid = id
  rotate_left
  ·
    exact absurd hst.2.2.1 hid
  have ib : (nid != id) = false := by rw [bne_eq_false_iff_eq]; exact hid
  have HI := Lib.hid hid
  clear hid
  go_upto_region 8 with fail
  clear n1 ib
  have n0 := bn.cell' (i := 0) rfl
  trace "C"
  have hrg := note_rng H2.out
  dsimp only at hrg
  by_cases h45 : nk = 4 ∨ nk = 5
  ·
    exact absurd h45 hst.2.2.2.1
  have HK := Lib.hid h45
  have hk : nk = 1 ∨ nk = 2 ∨ nk = 3 ∨ nk = 6 := by omega
  have k4 : (nk == 4) = false := by rw [beq_eq_false_iff_ne]; omega
  have k5 : (nk == 5) = false := by rw [beq_eq_false_iff_ne]; omega
  clear hrg h45
  go_upto_region 11 with fail
  trace "D"
  have bs := Blk.new w3 27 #[.int .i64 6, .int .i64 id, .string ⟨#[]⟩, .int .i64 0, .int .i64 0, .int .i64 0, .slice none 0 0, .slice none 0 0, .int .i64 3, .int .i64 0]
  have zw3 : q < w3.heap.size := bq.lt
  replace br := br.alloc (.cells #[.int .i64 6, .int .i64 id, .string ⟨#[]⟩, .int .i64 0, .int .i64 0, .int .i64 0, .slice none 0 0, .slice none 0 0, .int .i64 3, .int .i64 0] 27)
  replace bn := bn.alloc (.cells #[.int .i64 6, .int .i64 id, .string ⟨#[]⟩, .int .i64 0, .int .i64 0, .int .i64 0, .slice none 0 0, .slice none 0 0, .int .i64 3, .int .i64 0] 27)
  replace bq := bq.alloc (.cells #[.int .i64 6, .int .i64 id, .string ⟨#[]⟩, .int .i64 0, .int .i64 0, .int .i64 0, .slice none 0 0, .slice none 0 0, .int .i64 3, .int .i64 0] 27)
  replace hM := hM.step ((Below.refl w3.heap.size w3).alloc (Nat.le_refl _) (.cells #[.int .i64 6, .int .i64 id, .string ⟨#[]⟩, .int .i64 0, .int .i64 0, .int .i64 0, .slice none 0 0, .slice none 0 0, .int .i64 3, .int .i64 0] 27))
  replace hB := hB.alloc hB.size (.cells #[.int .i64 6, .int .i64 id, .string ⟨#[]⟩, .int .i64 0, .int .i64 0, .int .i64 0, .slice none 0 0, .slice none 0 0, .int .i64 3, .int .i64 0] 27)
  obtain ⟨sb, hsb⟩ : ∃ sb, w3.heap.size = sb := ⟨_, rfl⟩
  rw [hsb] at bs zw3 ⊢
  have hsq : sb ≠ q := by omega
  clear hsb x0 n0
  generalize w3.alloc (.cells #[.int .i64 6, .int .i64 id, .string ⟨#[]⟩, .int .i64 0, .int .i64 0, .int .i64 0, .slice none 0 0, .slice none 0 0, .int .i64 3, .int .i64 0] 27) = V1 at *
  have x9 := bq.cell' (i := 9) rfl
  have n0 := bn.cell' (i := 0) rfl
  rcases tk_stage3 H1.out with h | h | h
  all_goals (dsimp only at h; subst h)
  rotate_left
  ·
    by_cases h3 : nk = 3
    ·
      exact absurd (show (3 : Int) = 0 from hst.2.2.2.2) (by decide)
    ·
      have k3 : (nk == 3) = false := by rw [beq_eq_false_iff_ne]; exact h3
      by_cases h6 : nk = 6 ∧ nof = 5
      ·
        exact absurd (show (3 : Int) = 0 from hst.2.2.2.2) (by decide)
      ·
        exact absurd (show (3 : Int) = 0 from hst.2.2.2.2) (by decide)
  ·
    by_cases h3 : nk = 3
    ·
      exact absurd (show (4 : Int) = 0 from hst.2.2.2.2) (by decide)
    ·
      have k3 : (nk == 3) = false := by rw [beq_eq_false_iff_ne]; exact h3
      exact absurd (show (4 : Int) = 0 from hst.2.2.2.2) (by decide)
  trace "H"
  obtain ⟨y1, hy1⟩ : ∃ y1, comesT (⟨id, known, name, size, ended, last, sum, have_, file, 0, 0, patience, 0, limit⟩ : Tk) ⟨nk, nid, nn, ns_, nsum, nat_, nd, ng, nof, ncode⟩ = y1 := ⟨_, rfl⟩
  have hj1 : ¬ GoJ y1 := by rw [← hy1]; exact hj
  clear hj
  have HY := Lib.hid hy1
  have HY0 := Lib.hid (show y1.stage = 0 by rw [← hy1, comes_stage])
  have HJ0 : TkJ (⟨id, known, name, size, ended, last, sum, have_, file, 0, 0, patience, 0, limit⟩ : Tk) := by
    have h := (TkI.of H1.out).j
    exact ⟨h.size, h.last, h.rows, h.long, h.small⟩
  have HJ1 : TkJ y1 := by rw [← hy1]; exact comes_J HJ0 H2.out
  have HEN : Hid (nk = 3 → y1.ended = true) := Lib.hid (fun h => by rw [← hy1]; exact comes_ended h)
  have HG := Lib.hid (fun (z : Tk) (ms : List Nt) (h : judgeT y1 = (z, ms)) => take_t H1.out H2.out HI.out HK.out ((taket_go (x := (⟨id, known, name, size, ended, last, sum, have_, file, 0, timer, patience, tries, limit⟩ : Tk)) rfl).trans (goT_eq hy1 h)))
  have HZB := Lib.hid (zero_of H1.out)
  clear hy1
  have kf := bq.frozen
  have x10 := bq.cell' (i := 10) rfl
  go_upto_region 23 with fail
  clear x9 n0 kf x10
  replace hM := hM.turnQ bq (by decide) (by decide) (by decide) ((Turned.refl V1 (fun i => i = q)).set (p := ⟨q, 10, none⟩) (fun _ => rfl) (.int .i64 0))
  replace bq := bq.set_ 10 (.int .i64 0)
  replace br := br.far (p := ⟨q, 10, none⟩) hrq (.int .i64 0)
  replace bn := bn.far (p := ⟨q, 10, none⟩) hnq (.int .i64 0)
  replace bs := bs.far (p := ⟨q, 10, none⟩) hsq (.int .i64 0)
  replace hB := hB.setCell (p := ⟨q, 10, none⟩) (by show w.heap.size ≤ q; omega) (.int .i64 0)
  generalize V1.setCell ⟨q, 10, none⟩ (.int .i64 0) = V2 at *
  have kf := bq.frozen
  have x12 := bq.cell' (i := 12) rfl
  go_upto_region 24 with fail
  clear kf x12
  replace hM := hM.turnQ bq (by decide) (by decide) (by decide) ((Turned.refl V2 (fun i => i = q)).set (p := ⟨q, 12, none⟩) (fun _ => rfl) (.int .i64 0))
  replace bq := bq.set_ 12 (.int .i64 0)
  replace br := br.far (p := ⟨q, 12, none⟩) hrq (.int .i64 0)
  replace bn := bn.far (p := ⟨q, 12, none⟩) hnq (.int .i64 0)
  replace bs := bs.far (p := ⟨q, 12, none⟩) hsq (.int .i64 0)
  replace hB := hB.setCell (p := ⟨q, 12, none⟩) (by show w.heap.size ≤ q; omega) (.int .i64 0)
  generalize V2.setCell ⟨q, 12, none⟩ (.int .i64 0) = V3 at *
  have n0 := bn.cell' (i := 0) rfl
  go_upto_block 0 with fail
  trace "I"
  go_cut [9] (fun s9 wx => ∃ (W9 : World) (F2 : Option Addr) (fn2 f2 : Nat) (A2 : Option Addr) (an2 a2 : Nat) (O : Option Addr) (on oc : Nat) (l : List NtR), W9 = wx ∧ s9 = .slice O on oc ∧ RefAt w W9 q y1 (if nk = 3 then [(⟨6, id, ⟨#[]⟩, 0, 0, 0, [], [], 3, 0⟩ : Nt)] else []) #[.int .i64 nk, .int .i64 nid, .string nn, .int .i64 ns_, .int .i64 nsum, .int .i64 nat_, .slice D dn dc, .slice G gn gc, .int .i64 nof, .int .i64 ncode] F2 fn2 f2 A2 an2 a2 O on oc l)
  case first =>
    clear n0
    rcases hk with rfl | rfl | rfl | rfl
    ·
      cases known
      ·
        have HE := Lib.hid (HY.out.symm.trans (comes_1b (x := (⟨id, false, name, size, ended, last, sum, have_, file, 0, 0, patience, 0, limit⟩ : Tk)) (n := ⟨1, nid, nn, ns_, nsum, nat_, nd, ng, nof, ncode⟩) rfl rfl))
        try dsimp only at HE
        have y1c := bq.cell' (i := 1) rfl
        go_upto_region 28 with fail
        trace "K1"
        clear y1c
        have u0 : V3.drew.cell? ⟨w.heap.size + 1, 2, none⟩ = some (.string nn) := bn.cell' (i := 2) rfl
        have u1 : V3.drew.cell? ⟨w.heap.size + 1, 3, none⟩ = some (.int .i64 ns_) := bn.cell' (i := 3) rfl
        refine freeRegion (fun v => v.cell? ⟨w.heap.size + 1, 2, none⟩ = some (.string nn) ∧ v.cell? ⟨w.heap.size + 1, 3, none⟩ = some (.int .i64 ns_)) (by kernel_rfl) (by kernel_rfl) ⟨u0, u1⟩ (fun hSS => ?_)
        clear hSS
        replace hM := hM.drewQ
        replace bq := bq.drew
        replace br := br.drew
        replace bn := bn.drew
        replace hB := hB.drew
        generalize V3.drew = V30 at *
        refine free_take 0 (v := ?vm0) rfl (by kernel_rfl) (by kernel_rfl) (fun _ _ _ h => h) (⟨u0, u1⟩) (Or.inl ⟨by rfl, ?ym0⟩) ?rm0
        case ym0 => intro w hSw; obtain ⟨hu0, hu1⟩ := hSw; (try dsimp only at hSw); go_simp; try rfl
        case' rm0 => try simp only [List.getElem_toArray, List.getElem_cons_succ, List.getElem_cons_zero, Act.put, List.setIfInBounds_toArray, List.set_cons_zero, List.set_cons_succ]
        refine free_take 1 (v := ?vm1) rfl (by kernel_rfl) (by kernel_rfl) (fun _ _ _ h => h) (⟨u0, u1⟩) (Or.inl ⟨by rfl, ?ym1⟩) ?rm1
        case ym1 => intro w hSw; obtain ⟨hu0, hu1⟩ := hSw; (try dsimp only at hSw); go_simp; try rfl
        case' rm1 => try simp only [List.getElem_toArray, List.getElem_cons_succ, List.getElem_cons_zero, Act.put, List.setIfInBounds_toArray, List.set_cons_zero, List.set_cons_succ]
        refine free_take 2 (v := ?vm2) rfl (by kernel_rfl) (by kernel_rfl) (fun _ _ _ h => h) (⟨u0, u1⟩) (Or.inl ⟨by rfl, ?ym2⟩) ?rm2
        case ym2 => intro w hSw; obtain ⟨hu0, hu1⟩ := hSw; (try dsimp only at hSw); go_simp; try rfl
        case' rm2 => try simp only [List.getElem_toArray, List.getElem_cons_succ, List.getElem_cons_zero, Act.put, List.setIfInBounds_toArray, List.set_cons_zero, List.set_cons_succ]
        refine free_take 3 (v := ?vm3) rfl (by kernel_rfl) (by kernel_rfl) (fun _ _ _ h => h) (⟨u0, u1⟩) (Or.inl ⟨by rfl, ?ym3⟩) ?rm3
        case ym3 => intro w hSw; obtain ⟨hu0, hu1⟩ := hSw; (try dsimp only at hSw); go_simp; try rfl
        case' rm3 => try simp only [List.getElem_toArray, List.getElem_cons_succ, List.getElem_cons_zero, Act.put, List.setIfInBounds_toArray, List.set_cons_zero, List.set_cons_succ]
        refine free_take 4 (v := ?vm4) rfl (by kernel_rfl) (by kernel_rfl) (fun _ _ _ h => h) (⟨u0, u1⟩) (Or.inl ⟨by rfl, ?ym4⟩) ?rm4
        case ym4 => intro w hSw; obtain ⟨hu0, hu1⟩ := hSw; (try dsimp only at hSw); go_simp; try rfl
        case' rm4 => try simp only [List.getElem_toArray, List.getElem_cons_succ, List.getElem_cons_zero, Act.put, List.setIfInBounds_toArray, List.set_cons_zero, List.set_cons_succ]
        have kf := bq.frozen
        have yc := bq.cell' (i := 1) rfl
        refine free_step 5 rfl (by kernel_rfl) (fun K hK => ?sm0)
        case sm0 =>
          go_simp
          have bn2 := bn.far (p := ⟨q, 1, none⟩) hnq (.bool true)
          refine hK _ _ ⟨bn2.cell' (i := 2) rfl, bn2.cell' (i := 3) rfl⟩ ?_
          clear hK K kf yc u0 u1 bn2
          try simp only [List.getElem_toArray, List.getElem_cons_succ, List.getElem_cons_zero, Act.put, List.setIfInBounds_toArray, List.set_cons_zero, List.set_cons_succ]
          replace hM := hM.turnQ bq (by decide) (by decide) (by decide) ((Turned.refl V30 (fun i => i = q)).set (p := ⟨q, 1, none⟩) (fun _ => rfl) (.bool true))
          replace bq := bq.set_ 1 (.bool true)
          replace br := br.far (p := ⟨q, 1, none⟩) hrq (.bool true)
          replace bn := bn.far (p := ⟨q, 1, none⟩) hnq (.bool true)
          replace hB := hB.setCell (p := ⟨q, 1, none⟩) (by show w.heap.size ≤ q; omega) (.bool true)
          generalize V30.setCell ⟨q, 1, none⟩ (.bool true) = V31 at *
          have u0 := bn.cell' (i := 2) rfl
          have u1 := bn.cell' (i := 3) rfl
          refine free_take 6 (v := ?vm06) rfl (by kernel_rfl) (by kernel_rfl) (fun _ _ _ h => h) (⟨u0, u1⟩) (Or.inl ⟨by rfl, ?ym06⟩) ?rm06
          case ym06 => intro w hSw; obtain ⟨hu0, hu1⟩ := hSw; (try dsimp only at hSw); go_simp; try rfl
          case' rm06 => try simp only [List.getElem_toArray, List.getElem_cons_succ, List.getElem_cons_zero, Act.put, List.setIfInBounds_toArray, List.set_cons_zero, List.set_cons_succ]
          have kf := bq.frozen
          have yc := bq.cell' (i := 2) rfl
          refine free_step 7 rfl (by kernel_rfl) (fun K hK => ?sm1)
          case sm1 =>
            go_simp
            have bn2 := bn.far (p := ⟨q, 2, none⟩) hnq (.string nn)
            refine hK _ _ ⟨bn2.cell' (i := 2) rfl, bn2.cell' (i := 3) rfl⟩ ?_
            clear hK K kf yc u0 u1 bn2
            try simp only [List.getElem_toArray, List.getElem_cons_succ, List.getElem_cons_zero, Act.put, List.setIfInBounds_toArray, List.set_cons_zero, List.set_cons_succ]
            replace hM := hM.turnQ bq (by decide) (by decide) (by decide) ((Turned.refl V31 (fun i => i = q)).set (p := ⟨q, 2, none⟩) (fun _ => rfl) (.string nn))
            replace bq := bq.set_ 2 (.string nn)
            replace br := br.far (p := ⟨q, 2, none⟩) hrq (.string nn)
            replace bn := bn.far (p := ⟨q, 2, none⟩) hnq (.string nn)
            replace hB := hB.setCell (p := ⟨q, 2, none⟩) (by show w.heap.size ≤ q; omega) (.string nn)
            generalize V31.setCell ⟨q, 2, none⟩ (.string nn) = V32 at *
            have u0 := bn.cell' (i := 2) rfl
            have u1 := bn.cell' (i := 3) rfl
            refine free_take 8 (v := ?vm18) rfl (by kernel_rfl) (by kernel_rfl) (fun _ _ _ h => h) (⟨u0, u1⟩) (Or.inl ⟨by rfl, ?ym18⟩) ?rm18
            case ym18 => intro w hSw; obtain ⟨hu0, hu1⟩ := hSw; (try dsimp only at hSw); go_simp; try rfl
            case' rm18 => try simp only [List.getElem_toArray, List.getElem_cons_succ, List.getElem_cons_zero, Act.put, List.setIfInBounds_toArray, List.set_cons_zero, List.set_cons_succ]
            have kf := bq.frozen
            have yc := bq.cell' (i := 3) rfl
            refine free_step 9 rfl (by kernel_rfl) (fun K hK => ?sm2)
            case sm2 =>
              go_simp
              have bn2 := bn.far (p := ⟨q, 3, none⟩) hnq (.int .i64 ns_)
              refine hK _ _ ⟨bn2.cell' (i := 2) rfl, bn2.cell' (i := 3) rfl⟩ ?_
              clear hK K kf yc u0 u1 bn2
              try simp only [List.getElem_toArray, List.getElem_cons_succ, List.getElem_cons_zero, Act.put, List.setIfInBounds_toArray, List.set_cons_zero, List.set_cons_succ]
              replace hM := hM.turnQ bq (by decide) (by decide) (by decide) ((Turned.refl V32 (fun i => i = q)).set (p := ⟨q, 3, none⟩) (fun _ => rfl) (.int .i64 ns_))
              replace bq := bq.set_ 3 (.int .i64 ns_)
              replace br := br.far (p := ⟨q, 3, none⟩) hrq (.int .i64 ns_)
              replace bn := bn.far (p := ⟨q, 3, none⟩) hnq (.int .i64 ns_)
              replace hB := hB.setCell (p := ⟨q, 3, none⟩) (by show w.heap.size ≤ q; omega) (.int .i64 ns_)
              generalize V32.setCell ⟨q, 3, none⟩ (.int .i64 ns_) = V33 at *
              have u0 := bn.cell' (i := 2) rfl
              have u1 := bn.cell' (i := 3) rfl
              refine free_end (by kernel_rfl) ?_
              clear u0 u1
              go_wp2_with fail
              go_meet
              exact ⟨_, F1, fn, f1, A1, an, a1, none, 0, 0, [], rfl, rfl, (by rw [HE.out]; exact bq), br, bn, (by rw [HE.out]; (first | rw [if_neg (by omega)] | rw [if_pos rfl] | rw [if_pos trivial]); exact hM), hB⟩
      ·
        have HE := Lib.hid (HY.out.symm.trans (comes_1a (x := (⟨id, true, name, size, ended, last, sum, have_, file, 0, 0, patience, 0, limit⟩ : Tk)) (n := ⟨1, nid, nn, ns_, nsum, nat_, nd, ng, nof, ncode⟩) rfl rfl))
        try dsimp only at HE
        have y1c := bq.cell' (i := 1) rfl
        go_wp2_with fail
        go_meet
        exact ⟨_, F1, fn, f1, A1, an, a1, none, 0, 0, [], rfl, rfl, (by rw [HE.out]; exact bq), br, bn, (by rw [HE.out]; (first | rw [if_neg (by omega)] | rw [if_pos rfl] | rw [if_pos trivial]); exact hM), hB⟩
    ·
      have HE := Lib.hid (HY.out.symm.trans (comes_2 (x := (⟨id, known, name, size, ended, last, sum, have_, file, 0, 0, patience, 0, limit⟩ : Tk)) (n := ⟨2, nid, nn, ns_, nsum, nat_, nd, ng, nof, ncode⟩) rfl))
      try dsimp only at HE
      obtain ⟨g1, g2, g3, g4⟩ := note_2 H2.out rfl
      dsimp only at g1 g2 g3 g4
      rw [HDL.out] at g1 g2 g4
      obtain ⟨a, rfl⟩ : ∃ a : Nat, nat_ = (a : Int) := ⟨nat_.toNat, by omega⟩
      have han2 : an ≤ 100000 := by rw [← HHL.out]; exact HJ0.few
      have CL := Lib.hid (rlay_any (⟨id, known, name, size, ended, last, sum, have_, file, 0, 0, patience, 0, limit⟩ : Tk) F1 fn f1 A1 an a1 ⟨2, nid, nn, ns_, nsum, (a : Int), nd, ng, nof, ncode⟩ D dn dc G gn gc a V3 HFL.out HHL.out hM.file.rd hM.again.rd (HD.out.below hB) HDL.out rfl g1 (by omega) (by omega) HJ0.rows HJ0.long.symm (by rw [← HFL.out]; exact HJ0.small) HZB.out)
      unfold tvv tkv tkc ntv at CL
      dsimp only at CL
      have zq := bq.lt
      go_wp2_with (first
        | (refine wpList_load_row rfl 44 (.tmp 7) rfl q rfl 44 #[.int .i64 id, .bool known, .string name, .int .i64 size, .bool ended, .int .i64 last, .int .i64 sum, .slice A1 an a1, .slice F1 fn f1, .int .i64 0, .int .i64 0, .int .i64 patience, .int .i64 0, .int .i64 limit] (0, 0) _ bq Try.underlying44 rfl takersz ?_)
        | (refine wpList_load_row rfl 27 (.tmp 3) rfl (w.heap.size + 1) rfl 27 #[.int .i64 2, .int .i64 nid, .string nn, .int .i64 ns_, .int .i64 nsum, .int .i64 (a : Int), .slice D dn dc, .slice G gn gc, .int .i64 nof, .int .i64 ncode] (0, 0) _ bn Try.underlying27 rfl notesz ?_))
      trace "K2"
      refine CL.out.mono ?_
      rintro e w4 ⟨F4, n4, f4, A4, m4, a4, rfl, hl1, hl2, hF4, hA4, hb⟩
      replace bq := bq.step hb
      replace br := br.step hb
      replace bn := bn.step hb
      replace hB := hB.trans (hb.mono hB.size)
      clear CL hb
      obtain ⟨y2, hy2⟩ : ∃ y2, layT (⟨id, known, name, size, ended, last, sum, have_, file, 0, 0, patience, 0, limit⟩ : Tk) ⟨2, nid, nn, ns_, nsum, (a : Int), nd, ng, nof, ncode⟩ = y2 := ⟨_, rfl⟩
      have HE2 := Lib.hid (HE.out.trans hy2)
      rw [hy2] at hl1 hl2 hF4 hA4 ⊢
      clear hy2
      obtain ⟨kid, kknown, kname, ksize, kended, klast, ksum, khave_, kfile, kstage, ktimer, kpatience, ktries, klimit⟩ := y2
      unfold tvv tkv tkc
      dsimp only at hl1 hl2 hF4 hA4 ⊢
      go_wp2_with (refine wpList_store_row rfl 44 (.tmp 7) (.tmp 94) rfl q #[.int .i64 kid, .bool kknown, .string kname, .int .i64 ksize, .bool kended, .int .i64 klast, .int .i64 ksum, .slice A4 m4 a4, .slice F4 n4 f4, .int .i64 kstage, .int .i64 ktimer, .int .i64 kpatience, .int .i64 ktries, .int .i64 klimit] rfl rfl 44 _ bq takersz rfl (by simp [Value.oneCell']) ?_)
      trace "K2b"
      have bq5 := bq.row #[.int .i64 kid, .bool kknown, .string kname, .int .i64 ksize, .bool kended, .int .i64 klast, .int .i64 ksum, .slice A4 m4 a4, .slice F4 n4 f4, .int .i64 kstage, .int .i64 ktimer, .int .i64 kpatience, .int .i64 ktries, .int .i64 klimit]
      have br5 := br.farRow (g := q) hrq #[.int .i64 kid, .bool kknown, .string kname, .int .i64 ksize, .bool kended, .int .i64 klast, .int .i64 ksum, .slice A4 m4 a4, .slice F4 n4 f4, .int .i64 kstage, .int .i64 ktimer, .int .i64 kpatience, .int .i64 ktries, .int .i64 klimit]
      have bn5 := bn.farRow (g := q) hnq #[.int .i64 kid, .bool kknown, .string kname, .int .i64 ksize, .bool kended, .int .i64 klast, .int .i64 ksum, .slice A4 m4 a4, .slice F4 n4 f4, .int .i64 kstage, .int .i64 ktimer, .int .i64 kpatience, .int .i64 ktries, .int .i64 klimit]
      have hB5 := below_row hB (g := q) (by omega) #[.int .i64 kid, .bool kknown, .string kname, .int .i64 ksize, .bool kended, .int .i64 klast, .int .i64 ksum, .slice A4 m4 a4, .slice F4 n4 f4, .int .i64 kstage, .int .i64 ktimer, .int .i64 kpatience, .int .i64 ktries, .int .i64 klimit]
      have hF5 := (hF4.rowFar (r := q) zq #[.int .i64 kid, .bool kknown, .string kname, .int .i64 ksize, .bool kended, .int .i64 klast, .int .i64 ksum, .slice A4 m4 a4, .slice F4 n4 f4, .int .i64 kstage, .int .i64 ktimer, .int .i64 kpatience, .int .i64 ktries, .int .i64 klimit]).mono (base' := w.heap.size + 3) (by omega)
      have hA5 := (hA4.rowFar (r := q) zq #[.int .i64 kid, .bool kknown, .string kname, .int .i64 ksize, .bool kended, .int .i64 klast, .int .i64 ksum, .slice A4 m4 a4, .slice F4 n4 f4, .int .i64 kstage, .int .i64 ktimer, .int .i64 kpatience, .int .i64 ktries, .int .i64 klimit]).mono (base' := w.heap.size + 3) (by omega)
      go_meet
      exact ⟨_, F4, n4, f4, A4, m4, a4, none, 0, 0, [], rfl, rfl, (by rw [HE2.out]; exact bq5), br5, bn5, (by rw [HE2.out, if_neg (by omega)]; exact GvMem.none hl1 hl2 hF5 hA5), hB5⟩
    ·
      have hBa := hB.alloc hB.size (.cells #[.int .i64 6, .int .i64 id, .string ⟨#[]⟩, .int .i64 0, .int .i64 0, .int .i64 0, .slice none 0 0, .slice none 0 0, .int .i64 3, .int .i64 0] 27)
      have q6 : w.heap.size + 3 ≤ (V3.alloc (.cells #[.int .i64 6, .int .i64 id, .string ⟨#[]⟩, .int .i64 0, .int .i64 0, .int .i64 0, .slice none 0 0, .slice none 0 0, .int .i64 3, .int .i64 0] 27)).heap.size := by have := bq.lt; simp; omega
      have hOz : Own (V3.alloc (.cells #[.int .i64 6, .int .i64 id, .string ⟨#[]⟩, .int .i64 0, .int .i64 0, .int .i64 0, .slice none 0 0, .slice none 0 0, .int .i64 3, .int .i64 0] 27)) (w.heap.size + 3) 27 10 none 0 0 [] := Own.none_ _ _ _ _
      have hRn := Rd_lit V3 [.int .i64 6, .int .i64 id, .string ⟨#[]⟩, .int .i64 0, .int .i64 0, .int .i64 0, .slice none 0 0, .slice none 0 0, .int .i64 3, .int .i64 0] 27
      have hone : Hid (∀ u ∈ ([.int .i64 6, .int .i64 id, .string ⟨#[]⟩, .int .i64 0, .int .i64 0, .int .i64 0, .slice none 0 0, .slice none 0 0, .int .i64 3, .int .i64 0] : List Value), u.oneCell' = true) := Lib.hid (by intro u hu; simp only [List.mem_cons, List.not_mem_nil, or_false] at hu; rcases hu with rfl | rfl | rfl | rfl | rfl | rfl | rfl | rfl | rfl | rfl <;> rfl)
      obtain ⟨j0, hj0, hy0, hy1, hy2⟩ := info_parts noteinfo
      have q4 : 0 + 1 ≤ maxLen := by unfold maxLen; omega
      go_upto_region 33 with (first
        | (refine wpList_load_row rfl 27 (.tmp 8) rfl sb rfl 27 #[.int .i64 6, .int .i64 id, .string ⟨#[]⟩, .int .i64 0, .int .i64 0, .int .i64 0, .slice none 0 0, .slice none 0 0, .int .i64 3, .int .i64 0] (0, 0) _ bs Try.underlying27 rfl notesz ?_)
        | (refine wpList_noteRow rfl (.tmp 98) rfl 6 id ⟨#[]⟩ 0 0 0 none 0 0 none 0 0 3 0 rfl ?_)
        | (at_builtin; refine wpList_append_Own (V3.alloc (.cells #[.int .i64 6, .int .i64 id, .string ⟨#[]⟩, .int .i64 0, .int .i64 0, .int .i64 0, .slice none 0 0, .slice none 0 0, .int .i64 3, .int .i64 0] 27)) rfl (.tmp 97) (.tmp 99) 45 rfl (w.heap.size + 3) 27 j0 _ 10 _ Try.underlying45 hj0 hy0 hy1 hy2 rfl none 0 0 [] rfl hOz (some ⟨V3.heap.size, 0, none⟩) 1 1 [.int .i64 6, .int .i64 id, .string ⟨#[]⟩, .int .i64 0, .int .i64 0, .int .i64 0, .slice none 0 0, .slice none 0 0, .int .i64 3, .int .i64 0] rfl rfl hRn hone.out q4 (by omega) q6 ?_; intro O oc w4 hO4 hg4 hor4; simp only [Nat.zero_add, List.nil_append] at hO4; simp only [Nat.zero_add]))
      trace "K3"
      have hT : Turned V3 w4 (fun i => i = q ∨ blk none = some i) := ((Turned.refl V3 _).step ((Below.refl V3.heap.size V3).alloc (Nat.le_refl _) (.cells #[.int .i64 6, .int .i64 id, .string ⟨#[]⟩, .int .i64 0, .int .i64 0, .int .i64 0, .slice none 0 0, .slice none 0 0, .int .i64 3, .int .i64 0] 27))).grown hg4 (fun k hk _ => .inr hk)
      have hM4 := tk_more (n := (⟨6, id, ⟨#[]⟩, 0, 0, 0, [], [], 3, 0⟩ : Nt)) (G := none) (gc := 0) hM bq (by decide) (by decide) hT (by simpa [nts, ncs] using hO4) rfl (Own.none_ _ _ _ _) (fun i _ h => by simp [blk] at h) (fun j y _ i _ h => by simp [blk] at h)
      have hb4 := below_of_grown hg4
      replace bq := (bq.alloc (.cells #[.int .i64 6, .int .i64 id, .string ⟨#[]⟩, .int .i64 0, .int .i64 0, .int .i64 0, .slice none 0 0, .slice none 0 0, .int .i64 3, .int .i64 0] 27)).step hb4
      replace br := (br.alloc (.cells #[.int .i64 6, .int .i64 id, .string ⟨#[]⟩, .int .i64 0, .int .i64 0, .int .i64 0, .slice none 0 0, .slice none 0 0, .int .i64 3, .int .i64 0] 27)).step hb4
      replace bn := (bn.alloc (.cells #[.int .i64 6, .int .i64 id, .string ⟨#[]⟩, .int .i64 0, .int .i64 0, .int .i64 0, .slice none 0 0, .slice none 0 0, .int .i64 3, .int .i64 0] 27)).step hb4
      replace hB := hBa.trans (hb4.mono hBa.size)
      clear hM hBa hOz hRn hO4 hg4 hT hb4 hor4
      have hM := hM4
      clear hM4
      simp only [List.nil_append, Nat.zero_add] at hM
      have y4c := bq.cell' (i := 4) rfl
      cases ended
      ·
        have HE := Lib.hid (HY.out.symm.trans (comes_3b (x := (⟨id, known, name, size, false, last, sum, have_, file, 0, 0, patience, 0, limit⟩ : Tk)) (n := ⟨3, nid, nn, ns_, nsum, nat_, nd, ng, nof, ncode⟩) rfl rfl))
        try dsimp only at HE
        go_upto_region 34 with fail
        trace "K4"
        clear y4c
        have u0 : w4.drew.cell? ⟨w.heap.size + 1, 3, none⟩ = some (.int .i64 ns_) := bn.cell' (i := 3) rfl
        have u1 : w4.drew.cell? ⟨w.heap.size + 1, 4, none⟩ = some (.int .i64 nsum) := bn.cell' (i := 4) rfl
        refine freeRegion (fun v => v.cell? ⟨w.heap.size + 1, 3, none⟩ = some (.int .i64 ns_) ∧ v.cell? ⟨w.heap.size + 1, 4, none⟩ = some (.int .i64 nsum)) (by kernel_rfl) (by kernel_rfl) ⟨u0, u1⟩ (fun hSS => ?_)
        clear hSS
        replace hM := hM.drewQ
        replace bq := bq.drew
        replace br := br.drew
        replace bn := bn.drew
        replace hB := hB.drew
        generalize w4.drew = w40 at *
        refine free_take 0 (v := ?vp0) rfl (by kernel_rfl) (by kernel_rfl) (fun _ _ _ h => h) (⟨u0, u1⟩) (Or.inl ⟨by rfl, ?yp0⟩) ?rp0
        case yp0 => intro w hSw; obtain ⟨hu0, hu1⟩ := hSw; (try dsimp only at hSw); go_simp; try rfl
        case' rp0 => try simp only [List.getElem_toArray, List.getElem_cons_succ, List.getElem_cons_zero, Act.put, List.setIfInBounds_toArray, List.set_cons_zero, List.set_cons_succ]
        refine free_take 1 (v := ?vp1) rfl (by kernel_rfl) (by kernel_rfl) (fun _ _ _ h => h) (⟨u0, u1⟩) (Or.inl ⟨by rfl, ?yp1⟩) ?rp1
        case yp1 => intro w hSw; obtain ⟨hu0, hu1⟩ := hSw; (try dsimp only at hSw); go_simp; try rfl
        case' rp1 => try simp only [List.getElem_toArray, List.getElem_cons_succ, List.getElem_cons_zero, Act.put, List.setIfInBounds_toArray, List.set_cons_zero, List.set_cons_succ]
        refine free_take 2 (v := ?vp2) rfl (by kernel_rfl) (by kernel_rfl) (fun _ _ _ h => h) (⟨u0, u1⟩) (Or.inl ⟨by rfl, ?yp2⟩) ?rp2
        case yp2 => intro w hSw; obtain ⟨hu0, hu1⟩ := hSw; (try dsimp only at hSw); go_simp; try rfl
        case' rp2 => try simp only [List.getElem_toArray, List.getElem_cons_succ, List.getElem_cons_zero, Act.put, List.setIfInBounds_toArray, List.set_cons_zero, List.set_cons_succ]
        refine free_take 3 (v := ?vp3) rfl (by kernel_rfl) (by kernel_rfl) (fun _ _ _ h => h) (⟨u0, u1⟩) (Or.inl ⟨by rfl, ?yp3⟩) ?rp3
        case yp3 => intro w hSw; obtain ⟨hu0, hu1⟩ := hSw; (try dsimp only at hSw); go_simp; try rfl
        case' rp3 => try simp only [List.getElem_toArray, List.getElem_cons_succ, List.getElem_cons_zero, Act.put, List.setIfInBounds_toArray, List.set_cons_zero, List.set_cons_succ]
        refine free_take 4 (v := ?vp4) rfl (by kernel_rfl) (by kernel_rfl) (fun _ _ _ h => h) (⟨u0, u1⟩) (Or.inl ⟨by rfl, ?yp4⟩) ?rp4
        case yp4 => intro w hSw; obtain ⟨hu0, hu1⟩ := hSw; (try dsimp only at hSw); go_simp; try rfl
        case' rp4 => try simp only [List.getElem_toArray, List.getElem_cons_succ, List.getElem_cons_zero, Act.put, List.setIfInBounds_toArray, List.set_cons_zero, List.set_cons_succ]
        have kf := bq.frozen
        have yc := bq.cell' (i := 4) rfl
        refine free_step 5 rfl (by kernel_rfl) (fun K hK => ?sp0)
        case sp0 =>
          go_simp
          have bn2 := bn.far (p := ⟨q, 4, none⟩) hnq (.bool true)
          refine hK _ _ ⟨bn2.cell' (i := 3) rfl, bn2.cell' (i := 4) rfl⟩ ?_
          clear hK K kf yc u0 u1 bn2
          try simp only [List.getElem_toArray, List.getElem_cons_succ, List.getElem_cons_zero, Act.put, List.setIfInBounds_toArray, List.set_cons_zero, List.set_cons_succ]
          replace hM := hM.turnQ bq (by decide) (by decide) (by decide) ((Turned.refl w40 (fun i => i = q)).set (p := ⟨q, 4, none⟩) (fun _ => rfl) (.bool true))
          replace bq := bq.set_ 4 (.bool true)
          replace br := br.far (p := ⟨q, 4, none⟩) hrq (.bool true)
          replace bn := bn.far (p := ⟨q, 4, none⟩) hnq (.bool true)
          replace hB := hB.setCell (p := ⟨q, 4, none⟩) (by show w.heap.size ≤ q; omega) (.bool true)
          generalize w40.setCell ⟨q, 4, none⟩ (.bool true) = w41 at *
          have u0 := bn.cell' (i := 3) rfl
          have u1 := bn.cell' (i := 4) rfl
          refine free_take 6 (v := ?vp06) rfl (by kernel_rfl) (by kernel_rfl) (fun _ _ _ h => h) (⟨u0, u1⟩) (Or.inl ⟨by rfl, ?yp06⟩) ?rp06
          case yp06 => intro w hSw; obtain ⟨hu0, hu1⟩ := hSw; (try dsimp only at hSw); go_simp; try rfl
          case' rp06 => try simp only [List.getElem_toArray, List.getElem_cons_succ, List.getElem_cons_zero, Act.put, List.setIfInBounds_toArray, List.set_cons_zero, List.set_cons_succ]
          have kf := bq.frozen
          have yc := bq.cell' (i := 5) rfl
          refine free_step 7 rfl (by kernel_rfl) (fun K hK => ?sp1)
          case sp1 =>
            go_simp
            have bn2 := bn.far (p := ⟨q, 5, none⟩) hnq (.int .i64 ns_)
            refine hK _ _ ⟨bn2.cell' (i := 3) rfl, bn2.cell' (i := 4) rfl⟩ ?_
            clear hK K kf yc u0 u1 bn2
            try simp only [List.getElem_toArray, List.getElem_cons_succ, List.getElem_cons_zero, Act.put, List.setIfInBounds_toArray, List.set_cons_zero, List.set_cons_succ]
            replace hM := hM.turnQ bq (by decide) (by decide) (by decide) ((Turned.refl w41 (fun i => i = q)).set (p := ⟨q, 5, none⟩) (fun _ => rfl) (.int .i64 ns_))
            replace bq := bq.set_ 5 (.int .i64 ns_)
            replace br := br.far (p := ⟨q, 5, none⟩) hrq (.int .i64 ns_)
            replace bn := bn.far (p := ⟨q, 5, none⟩) hnq (.int .i64 ns_)
            replace hB := hB.setCell (p := ⟨q, 5, none⟩) (by show w.heap.size ≤ q; omega) (.int .i64 ns_)
            generalize w41.setCell ⟨q, 5, none⟩ (.int .i64 ns_) = w42 at *
            have u0 := bn.cell' (i := 3) rfl
            have u1 := bn.cell' (i := 4) rfl
            refine free_take 8 (v := ?vp18) rfl (by kernel_rfl) (by kernel_rfl) (fun _ _ _ h => h) (⟨u0, u1⟩) (Or.inl ⟨by rfl, ?yp18⟩) ?rp18
            case yp18 => intro w hSw; obtain ⟨hu0, hu1⟩ := hSw; (try dsimp only at hSw); go_simp; try rfl
            case' rp18 => try simp only [List.getElem_toArray, List.getElem_cons_succ, List.getElem_cons_zero, Act.put, List.setIfInBounds_toArray, List.set_cons_zero, List.set_cons_succ]
            have kf := bq.frozen
            have yc := bq.cell' (i := 6) rfl
            refine free_step 9 rfl (by kernel_rfl) (fun K hK => ?sp2)
            case sp2 =>
              go_simp
              have bn2 := bn.far (p := ⟨q, 6, none⟩) hnq (.int .i64 nsum)
              refine hK _ _ ⟨bn2.cell' (i := 3) rfl, bn2.cell' (i := 4) rfl⟩ ?_
              clear hK K kf yc u0 u1 bn2
              try simp only [List.getElem_toArray, List.getElem_cons_succ, List.getElem_cons_zero, Act.put, List.setIfInBounds_toArray, List.set_cons_zero, List.set_cons_succ]
              replace hM := hM.turnQ bq (by decide) (by decide) (by decide) ((Turned.refl w42 (fun i => i = q)).set (p := ⟨q, 6, none⟩) (fun _ => rfl) (.int .i64 nsum))
              replace bq := bq.set_ 6 (.int .i64 nsum)
              replace br := br.far (p := ⟨q, 6, none⟩) hrq (.int .i64 nsum)
              replace bn := bn.far (p := ⟨q, 6, none⟩) hnq (.int .i64 nsum)
              replace hB := hB.setCell (p := ⟨q, 6, none⟩) (by show w.heap.size ≤ q; omega) (.int .i64 nsum)
              generalize w42.setCell ⟨q, 6, none⟩ (.int .i64 nsum) = w43 at *
              have u0 := bn.cell' (i := 3) rfl
              have u1 := bn.cell' (i := 4) rfl
              refine free_end (by kernel_rfl) ?_
              clear u0 u1
              go_wp2_with fail
              go_meet
              exact ⟨_, F1, fn, f1, A1, an, a1, O, 1, oc, _, rfl, rfl, (by rw [HE.out]; exact bq), br, bn, (by rw [HE.out]; (first | rw [if_neg (by omega)] | rw [if_pos rfl] | rw [if_pos trivial]); exact hM), hB⟩
      ·
        have HE := Lib.hid (HY.out.symm.trans (comes_3a (x := (⟨id, known, name, size, true, last, sum, have_, file, 0, 0, patience, 0, limit⟩ : Tk)) (n := ⟨3, nid, nn, ns_, nsum, nat_, nd, ng, nof, ncode⟩) rfl rfl))
        try dsimp only at HE
        go_wp2_with fail
        go_meet
        exact ⟨_, F1, fn, f1, A1, an, a1, O, 1, oc, _, rfl, rfl, (by rw [HE.out]; exact bq), br, bn, (by rw [HE.out]; (first | rw [if_neg (by omega)] | rw [if_pos rfl] | rw [if_pos trivial]); exact hM), hB⟩
    ·
      have HE := Lib.hid (HY.out.symm.trans (comes_6 (x := (⟨id, known, name, size, ended, last, sum, have_, file, 0, 0, patience, 0, limit⟩ : Tk)) (n := ⟨6, nid, nn, ns_, nsum, nat_, nd, ng, nof, ncode⟩) rfl))
      try dsimp only at HE
      go_wp2_with fail
      go_meet
      exact ⟨_, F1, fn, f1, A1, an, a1, none, 0, 0, [], rfl, rfl, (by rw [HE.out]; exact bq), br, bn, (by rw [HE.out]; (first | rw [if_neg (by omega)] | rw [if_pos rfl] | rw [if_pos trivial]); exact hM), hB⟩
  case rest =>
    trace "R"
    clear bq br bn bs hM hB n0 k4 k5 HY HD HDL HFL HHL HZB HJ0
    obtain ⟨W9, F2, fn2, f2, A2, an2, a2, O, on, oc, l, hW9, rfl, bq, br, bn, hM, hB⟩ := hcut
    subst hW9
    obtain ⟨n1, hn1⟩ : ∃ n1, (if nk = 3 then [(⟨6, id, ⟨#[]⟩, 0, 0, 0, [], [], 3, 0⟩ : Nt)] else []) = n1 := ⟨_, rfl⟩
    have HG2 : Hid (∀ (z : Tk) (ms tail : List Nt), judgeT y1 = (z, ms) → (if ms = [] ∧ nk = 3 then askT z else []) = tail → takeR (⟨id, known, name, size, ended, last, sum, have_, file, 0, timer, patience, tries, limit⟩ : Tk) ⟨nk, nid, nn, ns_, nsum, nat_, nd, ng, nof, ncode⟩ = (z, n1 ++ ms ++ tail, 0)) := Lib.hid (fun z ms tail h h2 => by
      have h3 := HG.out z ms h
      dsimp only at h3
      rw [h2] at h3
      rw [← hn1]
      exact h3)
    rw [hn1] at hM
    have hnl : n1.length ≤ 1 := by rw [← hn1]; split <;> simp
    have hon : on ≤ 1 := by rw [← hM.nl]; exact hnl
    have han2 : an2 ≤ 100000 := by have h := hM.al; have h2 := HJ1.few; rw [← h]; exact h2
    have HFL2 := Lib.hid (show y1.file.length = fn2 from hM.fl)
    have HHL2 := Lib.hid (show y1.have_.length = an2 from hM.al)
    clear hn1 HG hnl
    obtain ⟨jid, jknown, jname, jsize, jended, jlast, jsum, jhave_, jfile, jstage, jtimer, jpatience, jtries, jlimit⟩ := y1
    unfold tkc at bq
    dsimp only at bq HY0 HEN HFL2 HHL2 HG2
    obtain rfl : jstage = 0 := HY0.out
    obtain ⟨js, jl, jr, jlong, jsmall⟩ := HJ1
    dsimp only at js jl jr jlong jsmall
    have HPO : Hid (∀ g ∈ jhave_, (0 : Int) ≤ g.1) := Lib.hid (jr.pos (Int.le_refl _))
    have HLA := Lib.hid jl
    have HALL := Lib.hid (fun (h : allR jhave_ jsize = true) => all_long (n := jfile.length) jr h js.1 jlong)
    have HROW := Lib.hid (fun (n : Nat) => allR_rows (n := n) jr)
    have HFF := Lib.hid hM.file.le
    clear jr jlong jsmall HY0 jl
    have x1 := bq.cell' (i := 1) rfl
    have x4 := bq.cell' (i := 4) rfl
    have x3 := bq.cell' (i := 3) rfl
    have x5 := bq.cell' (i := 5) rfl
    have x7 := bq.cell' (i := 7) rfl
    cases jknown
    ·
      have n0 := bn.cell' (i := 0) rfl
      by_cases h3 : nk = 3
      ·
        have h3b : (nk == 3) = true := by rw [beq_iff_eq]; exact h3
        have HE := Lib.hid (fun (mt : List (Int × Int)) (hm : missT (⟨jid, false, jname, jsize, jended, jlast, jsum, jhave_, jfile, 0, jtimer, jpatience, jtries, jlimit⟩ : Tk) = mt) => (by have h := HG2.out _ _ [gapsN (⟨jid, false, jname, jsize, jended, jlast, jsum, jhave_, jfile, 0, jtimer, jpatience, jtries, jlimit⟩ : Tk) mt] (judgeT_4 (x := (⟨jid, false, jname, jsize, jended, jlast, jsum, jhave_, jfile, 0, jtimer, jpatience, jtries, jlimit⟩ : Tk)) rfl) (by rw [if_pos ⟨rfl, h3⟩, askT_yes (miss_unknown (x := (⟨jid, false, jname, jsize, jended, jlast, jsum, jhave_, jfile, 0, jtimer, jpatience, jtries, jlimit⟩ : Tk)) rfl), hm]); rw [List.append_nil] at h; exact h : takeR (⟨id, known, name, size, ended, last, sum, have_, file, 0, timer, patience, tries, limit⟩ : Tk) ⟨nk, nid, nn, ns_, nsum, nat_, nd, ng, nof, ncode⟩ = ((⟨jid, false, jname, jsize, jended, jlast, jsum, jhave_, jfile, 0, jtimer, jpatience, jtries, jlimit⟩ : Tk), n1 ++ [gapsN (⟨jid, false, jname, jsize, jended, jlast, jsum, jhave_, jfile, 0, jtimer, jpatience, jtries, jlimit⟩ : Tk) mt], 0)))
        clear h3
        obtain ⟨j0, hj0, hy0, hy1, hy2⟩ := info_parts noteinfo
        have q4 : on + 1 ≤ maxLen := by unfold maxLen; omega
        go_upto_region 45 with fail
        trace "S0ra"
        refine freeRegion (fun v => Blk v q 44 #[.int .i64 jid, .bool false, .string jname, .int .i64 jsize, .bool jended, .int .i64 jlast, .int .i64 jsum, .slice A2 an2 a2, .slice F2 fn2 f2, .int .i64 0, .int .i64 jtimer, .int .i64 jpatience, .int .i64 jtries, .int .i64 jlimit]) (by kernel_rfl) (by kernel_rfl) bq.drew (fun hSS => ?_)
        clear hSS
        replace hM := hM.drewQ
        replace bq := bq.drew
        replace br := br.drew
        replace bn := bn.drew
        replace hB := hB.drew
        generalize W9.drew = W9d at *
        refine free_take 0 (v := ?vra0) rfl (by kernel_rfl) (by kernel_rfl) (fun _ _ _ h => h) (bq) (Or.inl ⟨by rfl, ?yra0⟩) ?rra0
        case yra0 => intro w hSw; obtain hw := _root_.id hSw; have e0 := hw.cell' (i := 0) rfl; have e1 := hw.cell' (i := 1) rfl; have e2 := hw.cell' (i := 2) rfl; have e3 := hw.cell' (i := 3) rfl; have e4 := hw.cell' (i := 4) rfl; have e5 := hw.cell' (i := 5) rfl; have e6 := hw.cell' (i := 6) rfl; have e7 := hw.cell' (i := 7) rfl; have e8 := hw.cell' (i := 8) rfl; have e9 := hw.cell' (i := 9) rfl; have e10 := hw.cell' (i := 10) rfl; have e11 := hw.cell' (i := 11) rfl; have e12 := hw.cell' (i := 12) rfl; have e13 := hw.cell' (i := 13) rfl; have hSx := hSw; (try dsimp only at hSw); go_simp; try rfl
        case' rra0 => try simp only [List.getElem_toArray, List.getElem_cons_succ, List.getElem_cons_zero, Act.put, List.setIfInBounds_toArray, List.set_cons_zero, List.set_cons_succ]
        refine free_take 1 (v := ?vra1) rfl (by kernel_rfl) (by kernel_rfl) (fun _ _ _ h => h) (bq) (Or.inl ⟨by rfl, ?yra1⟩) ?rra1
        case yra1 => intro w hSw; obtain hw := _root_.id hSw; have e0 := hw.cell' (i := 0) rfl; have e1 := hw.cell' (i := 1) rfl; have e2 := hw.cell' (i := 2) rfl; have e3 := hw.cell' (i := 3) rfl; have e4 := hw.cell' (i := 4) rfl; have e5 := hw.cell' (i := 5) rfl; have e6 := hw.cell' (i := 6) rfl; have e7 := hw.cell' (i := 7) rfl; have e8 := hw.cell' (i := 8) rfl; have e9 := hw.cell' (i := 9) rfl; have e10 := hw.cell' (i := 10) rfl; have e11 := hw.cell' (i := 11) rfl; have e12 := hw.cell' (i := 12) rfl; have e13 := hw.cell' (i := 13) rfl; have hSx := hSw; (try dsimp only at hSw); go_simp; try rfl
        case' rra1 => try simp only [List.getElem_toArray, List.getElem_cons_succ, List.getElem_cons_zero, Act.put, List.setIfInBounds_toArray, List.set_cons_zero, List.set_cons_succ]
        refine free_take 2 (v := ?vra2) rfl (by kernel_rfl) (by kernel_rfl) (fun _ _ _ h => h) (bq) (Or.inl ⟨by rfl, ?yra2⟩) ?rra2
        case yra2 => intro w hSw; obtain hw := _root_.id hSw; have e0 := hw.cell' (i := 0) rfl; have e1 := hw.cell' (i := 1) rfl; have e2 := hw.cell' (i := 2) rfl; have e3 := hw.cell' (i := 3) rfl; have e4 := hw.cell' (i := 4) rfl; have e5 := hw.cell' (i := 5) rfl; have e6 := hw.cell' (i := 6) rfl; have e7 := hw.cell' (i := 7) rfl; have e8 := hw.cell' (i := 8) rfl; have e9 := hw.cell' (i := 9) rfl; have e10 := hw.cell' (i := 10) rfl; have e11 := hw.cell' (i := 11) rfl; have e12 := hw.cell' (i := 12) rfl; have e13 := hw.cell' (i := 13) rfl; have hSx := hSw; (try dsimp only at hSw); go_simp; try rfl
        case' rra2 => try simp only [List.getElem_toArray, List.getElem_cons_succ, List.getElem_cons_zero, Act.put, List.setIfInBounds_toArray, List.set_cons_zero, List.set_cons_succ]
        refine free_take 3 (v := ?vra3) rfl (by kernel_rfl) (by kernel_rfl) (fun _ _ _ h => h) (bq) (Or.inl ⟨by rfl, ?yra3⟩) ?rra3
        case yra3 => intro w hSw; obtain hw := _root_.id hSw; have e0 := hw.cell' (i := 0) rfl; have e1 := hw.cell' (i := 1) rfl; have e2 := hw.cell' (i := 2) rfl; have e3 := hw.cell' (i := 3) rfl; have e4 := hw.cell' (i := 4) rfl; have e5 := hw.cell' (i := 5) rfl; have e6 := hw.cell' (i := 6) rfl; have e7 := hw.cell' (i := 7) rfl; have e8 := hw.cell' (i := 8) rfl; have e9 := hw.cell' (i := 9) rfl; have e10 := hw.cell' (i := 10) rfl; have e11 := hw.cell' (i := 11) rfl; have e12 := hw.cell' (i := 12) rfl; have e13 := hw.cell' (i := 13) rfl; have hSx := hSw; (try dsimp only at hSw); go_simp; try rfl
        case' rra3 => try simp only [List.getElem_toArray, List.getElem_cons_succ, List.getElem_cons_zero, Act.put, List.setIfInBounds_toArray, List.set_cons_zero, List.set_cons_succ]
        trace "S1ra"
        have CMI := Lib.hid (missing_any (⟨jid, false, jname, jsize, jended, jlast, jsum, jhave_, jfile, 0, jtimer, jpatience, jtries, jlimit⟩ : Tk) A2 an2 a2 F2 fn2 f2 W9d hM.al hM.again.rd (by omega) HPO.out HLA.out)
        unfold tkv tkc at CMI
        dsimp only at CMI
        have hqO := hM.out.notBlk bq (by decide)
        refine free_step 4 rfl (by kernel_rfl) (fun K hK => ?cra)
        case cra =>
          go_simp
          refine CMI.out.mono ?_
          rintro e w5 ⟨G9, gc9, rfl, hG9, hb⟩
          have zq := bq.lt
          have bq5 := bq.step hb
          have br5 := br.step hb
          have hB5 := hB.trans (hb.mono hB.size)
          have hM5 := hM.step hb
          have hGA : ∀ i, blk A2 = some i → blk G9 ≠ some i := fun i h1 h2 => by have := (hM.again.lt i h1).2; have := (hG9.lt i h2).1; omega
          have hGl : ∀ (j : Nat) (z : NtR), l[j]? = some z → ∀ i, blk z.G = some i → blk G9 ≠ some i := fun j z hz i h1 h2 => by have := (hM.parts.ltG hz h1).2; have := (hG9.lt i h2).1; omega
          replace hG9 := hG9.mono (base' := w.heap.size + 3) (by omega)
          refine hK _ _ bq5 ?_
          clear hK K hb CMI bq br hB hM
          obtain ⟨mt, hmt⟩ : ∃ mt, missT (⟨jid, false, jname, jsize, jended, jlast, jsum, jhave_, jfile, 0, jtimer, jpatience, jtries, jlimit⟩ : Tk) = mt := ⟨_, rfl⟩
          rw [hmt] at hG9 ⊢
          have HM := Lib.hid hmt
          clear hmt
          obtain ⟨mn, hmn⟩ : ∃ mn, mt.length = mn := ⟨_, rfl⟩
          rw [hmn] at hG9 ⊢
          have HMT := Lib.hid hmn
          clear hmn
          try simp only [List.getElem_toArray, List.getElem_cons_succ, List.getElem_cons_zero, Act.put, List.setIfInBounds_toArray, List.set_cons_zero, List.set_cons_succ]
          refine free_take 5 (v := ?vrab5) rfl (by kernel_rfl) (by kernel_rfl) (fun _ _ _ h => h) (bq5) (Or.inl ⟨by rfl, ?yrab5⟩) ?rrab5
          case yrab5 => intro w hSw; (try dsimp only at hSw); go_simp; try rfl
          case' rrab5 => try simp only [List.getElem_toArray, List.getElem_cons_succ, List.getElem_cons_zero, Act.put, List.setIfInBounds_toArray, List.set_cons_zero, List.set_cons_succ]
          have hone : Hid (∀ u ∈ ([.int .i64 4, .int .i64 jid, .string ⟨#[]⟩, .int .i64 0, .int .i64 0, .int .i64 0, .slice none 0 0, .slice G9 mn gc9, .int .i64 0, .int .i64 0] : List Value), u.oneCell' = true) := Lib.hid (by intro u hu; simp only [List.mem_cons, List.not_mem_nil, or_false] at hu; rcases hu with rfl | rfl | rfl | rfl | rfl | rfl | rfl | rfl | rfl | rfl <;> rfl)
          refine free_step 6 rfl (by kernel_rfl) (fun K hK => ?dra)
          case dra =>
            go_simp
            have bq6 := bq5.alloc (.cells #[.int .i64 4, .int .i64 jid, .string ⟨#[]⟩, .int .i64 0, .int .i64 0, .int .i64 0, .slice none 0 0, .slice G9 mn gc9, .int .i64 0, .int .i64 0] 27)
            have br6 := br5.alloc (.cells #[.int .i64 4, .int .i64 jid, .string ⟨#[]⟩, .int .i64 0, .int .i64 0, .int .i64 0, .slice none 0 0, .slice G9 mn gc9, .int .i64 0, .int .i64 0] 27)
            have hB6 := hB5.alloc hB5.size (.cells #[.int .i64 4, .int .i64 jid, .string ⟨#[]⟩, .int .i64 0, .int .i64 0, .int .i64 0, .slice none 0 0, .slice G9 mn gc9, .int .i64 0, .int .i64 0] 27)
            have hO6 := hM5.out.alloc (.cells #[.int .i64 4, .int .i64 jid, .string ⟨#[]⟩, .int .i64 0, .int .i64 0, .int .i64 0, .slice none 0 0, .slice G9 mn gc9, .int .i64 0, .int .i64 0] 27)
            have hT6 : Turned w5 (w5.alloc (.cells #[.int .i64 4, .int .i64 jid, .string ⟨#[]⟩, .int .i64 0, .int .i64 0, .int .i64 0, .slice none 0 0, .slice G9 mn gc9, .int .i64 0, .int .i64 0] 27)) (fun i => i = q ∨ blk O = some i) := (Turned.refl _ _).step ((Below.refl w5.heap.size w5).alloc (Nat.le_refl _) (.cells #[.int .i64 4, .int .i64 jid, .string ⟨#[]⟩, .int .i64 0, .int .i64 0, .int .i64 0, .slice none 0 0, .slice G9 mn gc9, .int .i64 0, .int .i64 0] 27))
            have hRn := Rd_lit w5 [.int .i64 4, .int .i64 jid, .string ⟨#[]⟩, .int .i64 0, .int .i64 0, .int .i64 0, .slice none 0 0, .slice G9 mn gc9, .int .i64 0, .int .i64 0] 27
            have q6 : w.heap.size + 3 ≤ (w5.alloc (.cells #[.int .i64 4, .int .i64 jid, .string ⟨#[]⟩, .int .i64 0, .int .i64 0, .int .i64 0, .slice none 0 0, .slice G9 mn gc9, .int .i64 0, .int .i64 0] 27)).heap.size := by have := bq6.lt; omega
            refine hK _ _ bq6 ?_
            clear hK K br5 hB5
            try simp only [List.getElem_toArray, List.getElem_cons_succ, List.getElem_cons_zero, Act.put, List.setIfInBounds_toArray, List.set_cons_zero, List.set_cons_succ]
            trace "S2ra"
            refine free_step 7 rfl (by kernel_rfl) (fun K hK => ?era)
            case era =>
              rw [if_pos (by kernel_rfl)]
              refine wp_append_Own _ (.tmp 173) (.tmp 179) 45 rfl (w.heap.size + 3) 27 j0 _ 10 _ Try.underlying45 hj0 hy0 hy1 hy2 rfl O on oc (nts l) rfl hO6 (some ⟨w5.heap.size, 0, none⟩) 1 1 [.int .i64 4, .int .i64 jid, .string ⟨#[]⟩, .int .i64 0, .int .i64 0, .int .i64 0, .slice none 0 0, .slice G9 mn gc9, .int .i64 0, .int .i64 0] rfl rfl hRn hone.out q4 (by omega) q6 ?_
              intro O9 c9 w9 hO9 hg9 hor9
              have hT9 := hT6.grown hg9 (fun k hk _ => .inr hk)
              have bq9 := bq6.grown hg9 (fun e => hqO e.symm)
              have br9 := br6.grown hg9 (fun e => by have := (hO6.lt _ e.symm).1; omega)
              have hB9 := Below.grown' (A := O) hB6 hg9 hB6.size (fun k hk => by have := (hO6.lt k hk).1; omega)
              have hM9 := tk_more (n := gapsN (⟨jid, false, jname, jsize, jended, jlast, jsum, jhave_, jfile, 0, jtimer, jpatience, jtries, jlimit⟩ : Tk) mt) (G := G9) (gc := gc9) hM5 bq5 (by decide) (by decide) hT9 (by rw [nts_snoc]; show Own w9 _ _ _ O9 _ c9 (nts l ++ [_, _, _, _, _, _, _, .slice G9 mt.length gc9, _, _]); rw [HMT.out]; exact hO9) rfl (by show Own w5 _ _ _ G9 mt.length gc9 (gps mt); rw [HMT.out]; exact hG9) hGA hGl
              refine hK _ _ bq9 ?_
              clear hK K bq6 br6 hB6 hO6 hT6 hRn hO9 hg9 hor9 hT9 hM5 bq5 hqO hG9 hGA hGl
              try simp only [List.getElem_toArray, List.getElem_cons_succ, List.getElem_cons_zero, Act.put, List.setIfInBounds_toArray, List.set_cons_zero, List.set_cons_succ]
              trace "S3ra"
              refine free_take 8 (v := ?vrax8) rfl (by kernel_rfl) (by kernel_rfl) (fun _ _ _ h => h) (bq9) (Or.inl ⟨by rfl, ?yrax8⟩) ?rrax8
              case yrax8 => intro w hSw; (try dsimp only at hSw); go_simp; try rfl
              case' rrax8 => try simp only [List.getElem_toArray, List.getElem_cons_succ, List.getElem_cons_zero, Act.put, List.setIfInBounds_toArray, List.set_cons_zero, List.set_cons_succ]
              refine free_end (by kernel_rfl) ?_
              replace bq := bq9
              have br := br9
              have hB := hB9
              have hM := hM9
              clear bq9 br9 hB9 hM9
              have HEG := Lib.hid (HE.out mt HM.out)
              go_wp2_with (first
                | (refine wpList_load_row rfl 44 (.tmp 7) rfl q rfl 44 #[.int .i64 jid, .bool false, .string jname, .int .i64 jsize, .bool jended, .int .i64 jlast, .int .i64 jsum, .slice A2 an2 a2, .slice F2 fn2 f2, .int .i64 0, .int .i64 jtimer, .int .i64 jpatience, .int .i64 jtries, .int .i64 jlimit] (0, 0) _ bq Try.underlying44 rfl takersz ?_)
                | (refine wpList_store_row rfl 44 (.tmp 4) (.tmp 181) rfl (w.heap.size + 2) #[.int .i64 jid, .bool false, .string jname, .int .i64 jsize, .bool jended, .int .i64 jlast, .int .i64 jsum, .slice A2 an2 a2, .slice F2 fn2 f2, .int .i64 0, .int .i64 jtimer, .int .i64 jpatience, .int .i64 jtries, .int .i64 jlimit] rfl rfl 44 _ br takersz rfl (by simp [Value.oneCell']) ?_))
              have br9 := br.row #[.int .i64 jid, .bool false, .string jname, .int .i64 jsize, .bool jended, .int .i64 jlast, .int .i64 jsum, .slice A2 an2 a2, .slice F2 fn2 f2, .int .i64 0, .int .i64 jtimer, .int .i64 jpatience, .int .i64 jtries, .int .i64 jlimit]
              refine bodyPost_ret (v := .tuple #[.agg #[.int .i64 jid, .bool false, .string jname, .int .i64 jsize, .bool jended, .int .i64 jlast, .int .i64 jsum, .slice A2 an2 a2, .slice F2 fn2 f2, .int .i64 0, .int .i64 jtimer, .int .i64 jpatience, .int .i64 jtries, .int .i64 jlimit], .slice O9 (on + 1) c9, .int .i64 0]) (results_cell_two rfl _ _ (w.heap.size + 2) 44 _ (0, 0) _ rfl rfl rfl br9 Try.underlying44 rfl takersz) rfl ?_
              exact TkRes.of HR.out (HEG.out) (tk_out (y := (⟨jid, false, jname, jsize, jended, jlast, jsum, jhave_, jfile, 0, jtimer, jpatience, jtries, jlimit⟩ : Tk)) (base := w.heap.size + 3) hB (Nat.le_add_right _ _) (Nat.lt_succ_self _) hM)
      ·
        have h3b : (nk == 3) = false := by rw [beq_eq_false_iff_ne]; exact h3
        have HE := Lib.hid (by have h := HG2.out _ _ [] (judgeT_4 (x := (⟨jid, false, jname, jsize, jended, jlast, jsum, jhave_, jfile, 0, jtimer, jpatience, jtries, jlimit⟩ : Tk)) rfl) (if_neg (fun k => h3 k.2)); rw [List.append_nil, List.append_nil] at h; exact h : takeR (⟨id, known, name, size, ended, last, sum, have_, file, 0, timer, patience, tries, limit⟩ : Tk) ⟨nk, nid, nn, ns_, nsum, nat_, nd, ng, nof, ncode⟩ = ((⟨jid, false, jname, jsize, jended, jlast, jsum, jhave_, jfile, 0, jtimer, jpatience, jtries, jlimit⟩ : Tk), n1, 0))
        clear h3
        trace "T1ra"
        go_upto_region 46 with fail
        trace "T4ra"
        go_wp2_with (first
          | (refine wpList_load_row rfl 44 (.tmp 7) rfl q rfl 44 #[.int .i64 jid, .bool false, .string jname, .int .i64 jsize, .bool jended, .int .i64 jlast, .int .i64 jsum, .slice A2 an2 a2, .slice F2 fn2 f2, .int .i64 0, .int .i64 jtimer, .int .i64 jpatience, .int .i64 jtries, .int .i64 jlimit] (0, 0) _ bq Try.underlying44 rfl takersz ?_)
          | (refine wpList_store_row rfl 44 (.tmp 4) (.tmp 181) rfl (w.heap.size + 2) #[.int .i64 jid, .bool false, .string jname, .int .i64 jsize, .bool jended, .int .i64 jlast, .int .i64 jsum, .slice A2 an2 a2, .slice F2 fn2 f2, .int .i64 0, .int .i64 jtimer, .int .i64 jpatience, .int .i64 jtries, .int .i64 jlimit] rfl rfl 44 _ br takersz rfl (by simp [Value.oneCell']) ?_))
        have br9 := br.row #[.int .i64 jid, .bool false, .string jname, .int .i64 jsize, .bool jended, .int .i64 jlast, .int .i64 jsum, .slice A2 an2 a2, .slice F2 fn2 f2, .int .i64 0, .int .i64 jtimer, .int .i64 jpatience, .int .i64 jtries, .int .i64 jlimit]
        refine bodyPost_ret (v := .tuple #[.agg #[.int .i64 jid, .bool false, .string jname, .int .i64 jsize, .bool jended, .int .i64 jlast, .int .i64 jsum, .slice A2 an2 a2, .slice F2 fn2 f2, .int .i64 0, .int .i64 jtimer, .int .i64 jpatience, .int .i64 jtries, .int .i64 jlimit], .slice O on oc, .int .i64 0]) (results_cell_two rfl _ _ (w.heap.size + 2) 44 _ (0, 0) _ rfl rfl rfl br9 Try.underlying44 rfl takersz) rfl ?_
        exact TkRes.of HR.out (HE.out) (tk_out (y := (⟨jid, false, jname, jsize, jended, jlast, jsum, jhave_, jfile, 0, jtimer, jpatience, jtries, jlimit⟩ : Tk)) (base := w.heap.size + 3) hB (Nat.le_add_right _ _) (Nat.lt_succ_self _) hM)
    cases jended
    ·
      have n0 := bn.cell' (i := 0) rfl
      by_cases h3 : nk = 3
      ·
        have h := HEN.out h3
        cases h
      ·
        have h3b : (nk == 3) = false := by rw [beq_eq_false_iff_ne]; exact h3
        have HE := Lib.hid (by have h := HG2.out _ _ [] (judgeT_5 (x := (⟨jid, true, jname, jsize, false, jlast, jsum, jhave_, jfile, 0, jtimer, jpatience, jtries, jlimit⟩ : Tk)) rfl) (if_neg (fun k => h3 k.2)); rw [List.append_nil, List.append_nil] at h; exact h : takeR (⟨id, known, name, size, ended, last, sum, have_, file, 0, timer, patience, tries, limit⟩ : Tk) ⟨nk, nid, nn, ns_, nsum, nat_, nd, ng, nof, ncode⟩ = ((⟨jid, true, jname, jsize, false, jlast, jsum, jhave_, jfile, 0, jtimer, jpatience, jtries, jlimit⟩ : Tk), n1, 0))
        clear h3
        trace "T1rb"
        go_upto_region 46 with fail
        trace "T4rb"
        go_wp2_with (first
          | (refine wpList_load_row rfl 44 (.tmp 7) rfl q rfl 44 #[.int .i64 jid, .bool true, .string jname, .int .i64 jsize, .bool false, .int .i64 jlast, .int .i64 jsum, .slice A2 an2 a2, .slice F2 fn2 f2, .int .i64 0, .int .i64 jtimer, .int .i64 jpatience, .int .i64 jtries, .int .i64 jlimit] (0, 0) _ bq Try.underlying44 rfl takersz ?_)
          | (refine wpList_store_row rfl 44 (.tmp 4) (.tmp 181) rfl (w.heap.size + 2) #[.int .i64 jid, .bool true, .string jname, .int .i64 jsize, .bool false, .int .i64 jlast, .int .i64 jsum, .slice A2 an2 a2, .slice F2 fn2 f2, .int .i64 0, .int .i64 jtimer, .int .i64 jpatience, .int .i64 jtries, .int .i64 jlimit] rfl rfl 44 _ br takersz rfl (by simp [Value.oneCell']) ?_))
        have br9 := br.row #[.int .i64 jid, .bool true, .string jname, .int .i64 jsize, .bool false, .int .i64 jlast, .int .i64 jsum, .slice A2 an2 a2, .slice F2 fn2 f2, .int .i64 0, .int .i64 jtimer, .int .i64 jpatience, .int .i64 jtries, .int .i64 jlimit]
        refine bodyPost_ret (v := .tuple #[.agg #[.int .i64 jid, .bool true, .string jname, .int .i64 jsize, .bool false, .int .i64 jlast, .int .i64 jsum, .slice A2 an2 a2, .slice F2 fn2 f2, .int .i64 0, .int .i64 jtimer, .int .i64 jpatience, .int .i64 jtries, .int .i64 jlimit], .slice O on oc, .int .i64 0]) (results_cell_two rfl _ _ (w.heap.size + 2) 44 _ (0, 0) _ rfl rfl rfl br9 Try.underlying44 rfl takersz) rfl ?_
        exact TkRes.of HR.out (HE.out) (tk_out (y := (⟨jid, true, jname, jsize, false, jlast, jsum, jhave_, jfile, 0, jtimer, jpatience, jtries, jlimit⟩ : Tk)) (base := w.heap.size + 3) hB (Nat.le_add_right _ _) (Nat.lt_succ_self _) hM)
    by_cases hl : jsize = jlast
    rotate_left
    ·
      have HE := Lib.hid (by have h := HG2.out _ _ [] (judgeT_1 (x := (⟨jid, true, jname, jsize, true, jlast, jsum, jhave_, jfile, 0, jtimer, jpatience, jtries, jlimit⟩ : Tk)) rfl rfl hl) (if_neg (fun k => by cases k.1)); rw [List.append_nil] at h; exact h : takeR (⟨id, known, name, size, ended, last, sum, have_, file, 0, timer, patience, tries, limit⟩ : Tk) ⟨nk, nid, nn, ns_, nsum, nat_, nd, ng, nof, ncode⟩ = ((⟨jid, true, jname, jsize, true, jlast, jsum, jhave_, jfile, 4, jtimer, jpatience, jtries, jlimit⟩ : Tk), n1 ++ [doneN (⟨jid, true, jname, jsize, true, jlast, jsum, jhave_, jfile, 0, jtimer, jpatience, jtries, jlimit⟩ : Tk) 9], 0))
      have hlb : (jsize != jlast) = true := by rw [bne_iff_ne]; exact hl
      have kf := bq.frozen
      have x9 := bq.cell' (i := 9) rfl
      clear hl HALL HROW
      go_upto_region 37 with fail
      clear kf x9 x1 x4 x3 x5 x7
      replace hM := hM.turnQ bq (by decide) (by decide) (by decide) ((Turned.refl W9 (fun i => i = q)).set (p := ⟨q, 9, none⟩) (fun _ => rfl) (.int .i64 4))
      replace bq := bq.set_ 9 (.int .i64 4)
      replace br := br.far (p := ⟨q, 9, none⟩) hrq (.int .i64 4)
      replace bn := bn.far (p := ⟨q, 9, none⟩) hnq (.int .i64 4)
      replace hB := hB.setCell (p := ⟨q, 9, none⟩) (by show w.heap.size ≤ q; omega) (.int .i64 4)
      generalize W9.setCell ⟨q, 9, none⟩ (.int .i64 4) = W10 at *
      trace "R3"
      obtain ⟨j0, hj0, hy0, hy1, hy2⟩ := info_parts noteinfo
      have q4 : on + 1 ≤ maxLen := by unfold maxLen; omega
      have hone : Hid (∀ u ∈ ([.int .i64 5, .int .i64 jid, .string ⟨#[]⟩, .int .i64 0, .int .i64 0, .int .i64 0, .slice none 0 0, .slice none 0 0, .int .i64 0, .int .i64 9] : List Value), u.oneCell' = true) := Lib.hid (by intro u hu; simp only [List.mem_cons, List.not_mem_nil, or_false] at hu; rcases hu with rfl | rfl | rfl | rfl | rfl | rfl | rfl | rfl | rfl | rfl <;> rfl)
      refine freeRegion (fun v => Blk v q 44 #[.int .i64 jid, .bool true, .string jname, .int .i64 jsize, .bool true, .int .i64 jlast, .int .i64 jsum, .slice A2 an2 a2, .slice F2 fn2 f2, .int .i64 4, .int .i64 jtimer, .int .i64 jpatience, .int .i64 jtries, .int .i64 jlimit]) (by kernel_rfl) (by kernel_rfl) bq.drew (fun hSS => ?_)
      clear hSS
      replace hM := hM.drewQ
      replace bq := bq.drew
      replace br := br.drew
      replace bn := bn.drew
      replace hB := hB.drew
      generalize W10.drew = W10d at *
      refine free_take 0 (v := ?vrc0) rfl (by kernel_rfl) (by kernel_rfl) (fun _ _ _ h => h) (bq) (Or.inl ⟨by rfl, ?yrc0⟩) ?rrc0
      case yrc0 => intro w hSw; obtain hw := _root_.id hSw; have e0 := hw.cell' (i := 0) rfl; have e1 := hw.cell' (i := 1) rfl; have e2 := hw.cell' (i := 2) rfl; have e3 := hw.cell' (i := 3) rfl; have e4 := hw.cell' (i := 4) rfl; have e5 := hw.cell' (i := 5) rfl; have e6 := hw.cell' (i := 6) rfl; have e7 := hw.cell' (i := 7) rfl; have e8 := hw.cell' (i := 8) rfl; have e9 := hw.cell' (i := 9) rfl; have e10 := hw.cell' (i := 10) rfl; have e11 := hw.cell' (i := 11) rfl; have e12 := hw.cell' (i := 12) rfl; have e13 := hw.cell' (i := 13) rfl; have hSx := hSw; (try dsimp only at hSw); go_simp; try rfl
      case' rrc0 => try simp only [List.getElem_toArray, List.getElem_cons_succ, List.getElem_cons_zero, Act.put, List.setIfInBounds_toArray, List.set_cons_zero, List.set_cons_succ]
      refine free_take 1 (v := ?vrc1) rfl (by kernel_rfl) (by kernel_rfl) (fun _ _ _ h => h) (bq) (Or.inl ⟨by rfl, ?yrc1⟩) ?rrc1
      case yrc1 => intro w hSw; obtain hw := _root_.id hSw; have e0 := hw.cell' (i := 0) rfl; have e1 := hw.cell' (i := 1) rfl; have e2 := hw.cell' (i := 2) rfl; have e3 := hw.cell' (i := 3) rfl; have e4 := hw.cell' (i := 4) rfl; have e5 := hw.cell' (i := 5) rfl; have e6 := hw.cell' (i := 6) rfl; have e7 := hw.cell' (i := 7) rfl; have e8 := hw.cell' (i := 8) rfl; have e9 := hw.cell' (i := 9) rfl; have e10 := hw.cell' (i := 10) rfl; have e11 := hw.cell' (i := 11) rfl; have e12 := hw.cell' (i := 12) rfl; have e13 := hw.cell' (i := 13) rfl; have hSx := hSw; (try dsimp only at hSw); go_simp; try rfl
      case' rrc1 => try simp only [List.getElem_toArray, List.getElem_cons_succ, List.getElem_cons_zero, Act.put, List.setIfInBounds_toArray, List.set_cons_zero, List.set_cons_succ]
      refine free_take 2 (v := ?vrc2) rfl (by kernel_rfl) (by kernel_rfl) (fun _ _ _ h => h) (bq) (Or.inl ⟨by rfl, ?yrc2⟩) ?rrc2
      case yrc2 => intro w hSw; obtain hw := _root_.id hSw; have e0 := hw.cell' (i := 0) rfl; have e1 := hw.cell' (i := 1) rfl; have e2 := hw.cell' (i := 2) rfl; have e3 := hw.cell' (i := 3) rfl; have e4 := hw.cell' (i := 4) rfl; have e5 := hw.cell' (i := 5) rfl; have e6 := hw.cell' (i := 6) rfl; have e7 := hw.cell' (i := 7) rfl; have e8 := hw.cell' (i := 8) rfl; have e9 := hw.cell' (i := 9) rfl; have e10 := hw.cell' (i := 10) rfl; have e11 := hw.cell' (i := 11) rfl; have e12 := hw.cell' (i := 12) rfl; have e13 := hw.cell' (i := 13) rfl; have hSx := hSw; (try dsimp only at hSw); go_simp; try rfl
      case' rrc2 => try simp only [List.getElem_toArray, List.getElem_cons_succ, List.getElem_cons_zero, Act.put, List.setIfInBounds_toArray, List.set_cons_zero, List.set_cons_succ]
      trace "Q0rc"
      have CDN := Lib.hid (rdone_any (⟨jid, true, jname, jsize, true, jlast, jsum, jhave_, jfile, 4, jtimer, jpatience, jtries, jlimit⟩ : Tk) F2 fn2 f2 A2 an2 a2 9 W10d)
      unfold tvv tkv tkc ntv doneN at CDN
      dsimp only at CDN
      have hqO := hM.out.notBlk bq (by decide)
      refine free_step 3 rfl (by kernel_rfl) (fun K hK => ?crc)
      case crc =>
        go_simp
        refine CDN.out.mono ?_
        rintro e w5 ⟨rfl, hb⟩
        have bq5 := bq.step hb
        have br5 := br.step hb
        have hB5 := hB.trans (hb.mono hB.size)
        have hO5 := hM.out.step hb
        have hT5 : Turned W10d w5 (fun i => i = q ∨ blk O = some i) := (Turned.refl _ _).step hb
        refine hK _ _ bq5 ?_
        clear hK K hb CDN
        try simp only [List.getElem_toArray, List.getElem_cons_succ, List.getElem_cons_zero, Act.put, List.setIfInBounds_toArray, List.set_cons_zero, List.set_cons_succ]
        refine free_step 4 rfl (by kernel_rfl) (fun K hK => ?drc)
        case drc =>
          go_simp
          have bq6 := bq5.alloc (.cells #[.int .i64 5, .int .i64 jid, .string ⟨#[]⟩, .int .i64 0, .int .i64 0, .int .i64 0, .slice none 0 0, .slice none 0 0, .int .i64 0, .int .i64 9] 27)
          have br6 := br5.alloc (.cells #[.int .i64 5, .int .i64 jid, .string ⟨#[]⟩, .int .i64 0, .int .i64 0, .int .i64 0, .slice none 0 0, .slice none 0 0, .int .i64 0, .int .i64 9] 27)
          have hB6 := hB5.alloc hB5.size (.cells #[.int .i64 5, .int .i64 jid, .string ⟨#[]⟩, .int .i64 0, .int .i64 0, .int .i64 0, .slice none 0 0, .slice none 0 0, .int .i64 0, .int .i64 9] 27)
          have hO6 := hO5.alloc (.cells #[.int .i64 5, .int .i64 jid, .string ⟨#[]⟩, .int .i64 0, .int .i64 0, .int .i64 0, .slice none 0 0, .slice none 0 0, .int .i64 0, .int .i64 9] 27)
          have hT6 := hT5.step ((Below.refl w5.heap.size w5).alloc (Nat.le_refl _) (.cells #[.int .i64 5, .int .i64 jid, .string ⟨#[]⟩, .int .i64 0, .int .i64 0, .int .i64 0, .slice none 0 0, .slice none 0 0, .int .i64 0, .int .i64 9] 27))
          have hRn := Rd_lit w5 [.int .i64 5, .int .i64 jid, .string ⟨#[]⟩, .int .i64 0, .int .i64 0, .int .i64 0, .slice none 0 0, .slice none 0 0, .int .i64 0, .int .i64 9] 27
          have q6 : w.heap.size + 3 ≤ (w5.alloc (.cells #[.int .i64 5, .int .i64 jid, .string ⟨#[]⟩, .int .i64 0, .int .i64 0, .int .i64 0, .slice none 0 0, .slice none 0 0, .int .i64 0, .int .i64 9] 27)).heap.size := by have := bq6.lt; omega
          refine hK _ _ bq6 ?_
          clear hK K bq5 br5 hB5 hO5 hT5
          try simp only [List.getElem_toArray, List.getElem_cons_succ, List.getElem_cons_zero, Act.put, List.setIfInBounds_toArray, List.set_cons_zero, List.set_cons_succ]
          trace "Q1rc"
          refine free_step 5 rfl (by kernel_rfl) (fun K hK => ?erc)
          case erc =>
            rw [if_pos (by kernel_rfl)]
            refine wp_append_Own _ (.tmp 126) (.tmp 129) 45 rfl (w.heap.size + 3) 27 j0 _ 10 _ Try.underlying45 hj0 hy0 hy1 hy2 rfl O on oc (nts l) rfl hO6 (some ⟨w5.heap.size, 0, none⟩) 1 1 [.int .i64 5, .int .i64 jid, .string ⟨#[]⟩, .int .i64 0, .int .i64 0, .int .i64 0, .slice none 0 0, .slice none 0 0, .int .i64 0, .int .i64 9] rfl rfl hRn hone.out q4 (by omega) q6 ?_
            intro O9 c9 w9 hO9 hg9 hor9
            have hT9 := hT6.grown hg9 (fun k hk _ => .inr hk)
            have bq9 := bq6.grown hg9 (fun e => hqO e.symm)
            have br9 := br6.grown hg9 (fun e => by have := (hO6.lt _ e.symm).1; omega)
            have hB9 := Below.grown' (A := O) hB6 hg9 hB6.size (fun k hk => by have := (hO6.lt k hk).1; omega)
            have hM9 := tk_more (n := doneN (⟨jid, true, jname, jsize, true, jlast, jsum, jhave_, jfile, 4, jtimer, jpatience, jtries, jlimit⟩ : Tk) 9) (G := none) (gc := 0) hM bq (by decide) (by decide) hT9 (by rw [nts_snoc]; exact hO9) rfl (Own.none_ _ _ _ _) (fun i _ h => by simp [blk] at h) (fun j y _ i _ h => by simp [blk] at h)
            refine hK _ _ bq9 ?_
            clear hK K bq6 br6 hB6 hO6 hT6 hRn hO9 hg9 hor9 hT9 hM bq br hB hqO
            try simp only [List.getElem_toArray, List.getElem_cons_succ, List.getElem_cons_zero, Act.put, List.setIfInBounds_toArray, List.set_cons_zero, List.set_cons_succ]
            trace "Q2rc"
            refine free_step 6 rfl (by kernel_rfl) (fun K hK => ?frc)
            case frc =>
              rw [if_pos (by kernel_rfl)]
              refine wp_store_row 44 (.tmp 4) (.tmp 125) rfl (w.heap.size + 2) #[.int .i64 jid, .bool true, .string jname, .int .i64 jsize, .bool true, .int .i64 jlast, .int .i64 jsum, .slice A2 an2 a2, .slice F2 fn2 f2, .int .i64 4, .int .i64 jtimer, .int .i64 jpatience, .int .i64 jtries, .int .i64 jlimit] rfl rfl 44 _ br9 takersz rfl (by simp [Value.oneCell']) ?_
              have bq10 := bq9.farRow (g := w.heap.size + 2) (Ne.symm hrq) #[.int .i64 jid, .bool true, .string jname, .int .i64 jsize, .bool true, .int .i64 jlast, .int .i64 jsum, .slice A2 an2 a2, .slice F2 fn2 f2, .int .i64 4, .int .i64 jtimer, .int .i64 jpatience, .int .i64 jtries, .int .i64 jlimit]
              have br10 := br9.row #[.int .i64 jid, .bool true, .string jname, .int .i64 jsize, .bool true, .int .i64 jlast, .int .i64 jsum, .slice A2 an2 a2, .slice F2 fn2 f2, .int .i64 4, .int .i64 jtimer, .int .i64 jpatience, .int .i64 jtries, .int .i64 jlimit]
              refine hK _ _ bq10 ?_
              clear hK K
              try simp only [List.getElem_toArray, List.getElem_cons_succ, List.getElem_cons_zero, Act.put, List.setIfInBounds_toArray, List.set_cons_zero, List.set_cons_succ]
              refine free_take 7 (v := ?vrcx7) rfl (by kernel_rfl) (by kernel_rfl) (fun _ _ _ h => h) (bq10) (Or.inl ⟨by rfl, ?yrcx7⟩) ?rrcx7
              case yrcx7 => intro w hSw; (try dsimp only at hSw); go_simp; try rfl
              case' rrcx7 => try simp only [List.getElem_toArray, List.getElem_cons_succ, List.getElem_cons_zero, Act.put, List.setIfInBounds_toArray, List.set_cons_zero, List.set_cons_succ]
              refine free_take 8 (v := ?vrcx8) rfl (by kernel_rfl) (by kernel_rfl) (fun _ _ _ h => h) (bq10) (Or.inl ⟨by rfl, ?yrcx8⟩) ?rrcx8
              case yrcx8 => intro w hSw; (try dsimp only at hSw); go_simp; try rfl
              case' rrcx8 => try simp only [List.getElem_toArray, List.getElem_cons_succ, List.getElem_cons_zero, Act.put, List.setIfInBounds_toArray, List.set_cons_zero, List.set_cons_succ]
              refine free_end (by kernel_rfl) ?_
              trace "Q3rc"
              go_wp2_with fail
              refine bodyPost_ret (v := .tuple #[.agg #[.int .i64 jid, .bool true, .string jname, .int .i64 jsize, .bool true, .int .i64 jlast, .int .i64 jsum, .slice A2 an2 a2, .slice F2 fn2 f2, .int .i64 4, .int .i64 jtimer, .int .i64 jpatience, .int .i64 jtries, .int .i64 jlimit], .slice O9 (on + 1) c9, .int .i64 0]) (results_cell_two rfl _ _ (w.heap.size + 2) 44 _ (0, 0) _ rfl rfl rfl br10 Try.underlying44 rfl takersz) rfl ?_
              exact TkRes.of HR.out (HE.out) (tk_out (y := (⟨jid, true, jname, jsize, true, jlast, jsum, jhave_, jfile, 4, jtimer, jpatience, jtries, jlimit⟩ : Tk)) (base := w.heap.size + 3) hB9 (by omega) (by omega) hM9)
    exact absurd ⟨rfl, rfl, hl⟩ hj1
end Go.Proofs.Ytianombjgdmbeaa
