/-
  A note comes to a taker, by the document (TakeOf): where no bytes come.
-/
import Derived.Test.YtianombjgdmbeaaMDeliverTakes47
namespace Go.Proofs.Ytianombjgdmbeaa
set_option linter.unusedSimpArgs false
set_option linter.unusedVariables false
open Go.RowKit

set_option maxHeartbeats 12800000 in
set_option maxRecDepth 100000 in
theorem takeOf_over (x : Tk) (F : Option Addr) (fn fc : Nat) (A : Option Addr) (an ac : Nat) (n : Nt) (D : Option Addr) (dn dc : Nat) (G : Option Addr) (gn gc : Nat) (y : Tk) (ns : List Nt) (k : Int) (w : World) (hr : takeR x n = (y, ns, k)) (hf : x.file.length = fn) (ha : x.have_.length = an) (hF : Rd w F (bvs x.file)) (hA : Rd w A (gps x.have_)) (hfn : fn ≤ 140737488351232) (han : an ≤ 8796093022200) (hd : n.data.length = dn) (hg : n.gaps.length = gn) (hD : Rd w D (bvs n.data)) (hG : Rd w G (gps n.gaps)) (hdn : dn ≤ 140737488351232) (hgn : gn ≤ 8796093022200) (hst : ¬ GoOk x n) :
    Calls Try.prog 35 #[tvv x F fn fc A an ac, ntv n D dn dc G gn gc] w fun e w' => TkRes w w' y ns k e := by
  have HR := Lib.hid hr
  have CM := Lib.hid (fun (V : World) (hB : Below w.heap.size w V) => takerMay_any x A an ac F fn fc V ha hf (hA.below hB) (hF.below hB) han hfn)
  have CO := Lib.hid (fun (V : World) (hB : Below w.heap.size w V) => takerOf_v x F fn fc A an ac V hf ha (hF.below hB) (hA.below hB) hfn han)
  have CN := Lib.hid (fun (V : World) (hB : Below w.heap.size w V) => noteMay_any n D dn dc G gn gc V hd hg (hG.below hB) hdn hgn)
  obtain ⟨r1, hr1⟩ : ∃ r1, tkOk x = r1 := ⟨_, rfl⟩
  obtain ⟨r2, hr2⟩ : ∃ r2, noteOk n = r2 := ⟨_, rfl⟩
  rw [hr1] at CM
  rw [hr2] at CN
  have H1 := Lib.hid hr1
  have H2 := Lib.hid hr2
  have HFL := Lib.hid hf
  have HHL := Lib.hid ha
  have HDL := Lib.hid hd
  have HD := Lib.hid hD
  clear hr hr1 hr2 hf ha hF hA hd hg hD hG
  obtain ⟨id, known, name, size, ended, last, sum, have_, file, stage, timer, patience, tries, limit⟩ := x
  obtain ⟨nk, nid, nn, ns_, nsum, nat_, nd, ng, nof, ncode⟩ := n
  unfold tvv tkv tkc ntv
  unfold tkv tkc at CM
  unfold tvv tkv tkc at CO
  unfold ntv at CN
  dsimp only at CM CO CN H1 H2 HFL HHL HDL HD ⊢
  have bx := ((Blk.new w 44 #[.int .i64 id, .bool known, .string name, .int .i64 size, .bool ended, .int .i64 last, .int .i64 sum, .slice A an ac, .slice F fn fc, .int .i64 stage, .int .i64 timer, .int .i64 patience, .int .i64 tries, .int .i64 limit]).alloc (.cells #[.int .i64 nk, .int .i64 nid, .string nn, .int .i64 ns_, .int .i64 nsum, .int .i64 nat_, .slice D dn dc, .slice G gn gc, .int .i64 nof, .int .i64 ncode] 27)).alloc (.cells #[.int .i64 0, .bool false, .string ⟨#[]⟩, .int .i64 0, .bool false, .int .i64 0, .int .i64 0, .slice none 0 0, .slice none 0 0, .int .i64 0, .int .i64 0, .int .i64 0, .int .i64 0, .int .i64 0] 44)
  have bn := (Blk.new (w.alloc (.cells #[.int .i64 id, .bool known, .string name, .int .i64 size, .bool ended, .int .i64 last, .int .i64 sum, .slice A an ac, .slice F fn fc, .int .i64 stage, .int .i64 timer, .int .i64 patience, .int .i64 tries, .int .i64 limit] 44)) 27 #[.int .i64 nk, .int .i64 nid, .string nn, .int .i64 ns_, .int .i64 nsum, .int .i64 nat_, .slice D dn dc, .slice G gn gc, .int .i64 nof, .int .i64 ncode]).alloc (.cells #[.int .i64 0, .bool false, .string ⟨#[]⟩, .int .i64 0, .bool false, .int .i64 0, .int .i64 0, .slice none 0 0, .slice none 0 0, .int .i64 0, .int .i64 0, .int .i64 0, .int .i64 0, .int .i64 0] 44)
  have br := Blk.new ((w.alloc (.cells #[.int .i64 id, .bool known, .string name, .int .i64 size, .bool ended, .int .i64 last, .int .i64 sum, .slice A an ac, .slice F fn fc, .int .i64 stage, .int .i64 timer, .int .i64 patience, .int .i64 tries, .int .i64 limit] 44)).alloc (.cells #[.int .i64 nk, .int .i64 nid, .string nn, .int .i64 ns_, .int .i64 nsum, .int .i64 nat_, .slice D dn dc, .slice G gn gc, .int .i64 nof, .int .i64 ncode] 27)) 44 #[.int .i64 0, .bool false, .string ⟨#[]⟩, .int .i64 0, .bool false, .int .i64 0, .int .i64 0, .slice none 0 0, .slice none 0 0, .int .i64 0, .int .i64 0, .int .i64 0, .int .i64 0, .int .i64 0]
  rw [show (w.alloc (.cells #[.int .i64 id, .bool known, .string name, .int .i64 size, .bool ended, .int .i64 last, .int .i64 sum, .slice A an ac, .slice F fn fc, .int .i64 stage, .int .i64 timer, .int .i64 patience, .int .i64 tries, .int .i64 limit] 44)).heap.size = w.heap.size + 1 by simp] at bn
  rw [show ((w.alloc (.cells #[.int .i64 id, .bool known, .string name, .int .i64 size, .bool ended, .int .i64 last, .int .i64 sum, .slice A an ac, .slice F fn fc, .int .i64 stage, .int .i64 timer, .int .i64 patience, .int .i64 tries, .int .i64 limit] 44)).alloc (.cells #[.int .i64 nk, .int .i64 nid, .string nn, .int .i64 ns_, .int .i64 nsum, .int .i64 nat_, .slice D dn dc, .slice G gn gc, .int .i64 nof, .int .i64 ncode] 27)).heap.size = w.heap.size + 2 by simp] at br
  have hB : Below w.heap.size w (((w.alloc (.cells #[.int .i64 id, .bool known, .string name, .int .i64 size, .bool ended, .int .i64 last, .int .i64 sum, .slice A an ac, .slice F fn fc, .int .i64 stage, .int .i64 timer, .int .i64 patience, .int .i64 tries, .int .i64 limit] 44)).alloc (.cells #[.int .i64 nk, .int .i64 nid, .string nn, .int .i64 ns_, .int .i64 nsum, .int .i64 nat_, .slice D dn dc, .slice G gn gc, .int .i64 nof, .int .i64 ncode] 27)).alloc (.cells #[.int .i64 0, .bool false, .string ⟨#[]⟩, .int .i64 0, .bool false, .int .i64 0, .int .i64 0, .slice none 0 0, .slice none 0 0, .int .i64 0, .int .i64 0, .int .i64 0, .int .i64 0, .int .i64 0] 44)) := (((Below.refl _ _).alloc (Nat.le_refl _) _).alloc (by simp) _).alloc (by simp; omega) _
  go_enter Try.func35, Try.ntmps35
  go_upto_region 1 with fail
  generalize ((w.alloc (.cells #[.int .i64 id, .bool known, .string name, .int .i64 size, .bool ended, .int .i64 last, .int .i64 sum, .slice A an ac, .slice F fn fc, .int .i64 stage, .int .i64 timer, .int .i64 patience, .int .i64 tries, .int .i64 limit] 44)).alloc (.cells #[.int .i64 nk, .int .i64 nid, .string nn, .int .i64 ns_, .int .i64 nsum, .int .i64 nat_, .slice D dn dc, .slice G gn gc, .int .i64 nof, .int .i64 ncode] 27)).alloc (.cells #[.int .i64 0, .bool false, .string ⟨#[]⟩, .int .i64 0, .bool false, .int .i64 0, .int .i64 0, .slice none 0 0, .slice none 0 0, .int .i64 0, .int .i64 0, .int .i64 0, .int .i64 0, .int .i64 0] 44) = W at *
  go_wp2_with (refine wpList_load_row rfl 44 (.tmp 2) rfl w.heap.size rfl 44 #[.int .i64 id, .bool known, .string name, .int .i64 size, .bool ended, .int .i64 last, .int .i64 sum, .slice A an ac, .slice F fn fc, .int .i64 stage, .int .i64 timer, .int .i64 patience, .int .i64 tries, .int .i64 limit] (0, 0) _ bx Try.underlying44 rfl takersz ?_)
  refine (CM.out _ hB).mono ?_
  rintro e w1 ⟨rfl, hb⟩
  replace bx := bx.step hb
  replace br := br.step hb
  replace bn := bn.step hb
  replace hB := hB.trans (hb.mono hB.size)
  clear hb CM
  cases r1
  ·
    go_wp2_with (refine wpList_store_row rfl 44 (.tmp 4) (.tmp 13) rfl (w.heap.size + 2) #[.int .i64 0, .bool false, .string ⟨#[]⟩, .int .i64 0, .bool false, .int .i64 0, .int .i64 0, .slice none 0 0, .slice none 0 0, .int .i64 0, .int .i64 0, .int .i64 0, .int .i64 0, .int .i64 0] rfl rfl 44 _ br takersz rfl (by simp [Value.oneCell']) ?_)
    have br2 := br.row #[.int .i64 0, .bool false, .string ⟨#[]⟩, .int .i64 0, .bool false, .int .i64 0, .int .i64 0, .slice none 0 0, .slice none 0 0, .int .i64 0, .int .i64 0, .int .i64 0, .int .i64 0, .int .i64 0]
    refine bodyPost_ret (v := .tuple #[.agg #[.int .i64 0, .bool false, .string ⟨#[]⟩, .int .i64 0, .bool false, .int .i64 0, .int .i64 0, .slice none 0 0, .slice none 0 0, .int .i64 0, .int .i64 0, .int .i64 0, .int .i64 0, .int .i64 0], .slice none 0 0, .int .i64 11]) (results_cell_two rfl _ _ (w.heap.size + 2) 44 _ (0, 0) _ rfl rfl rfl br2 Try.underlying44 rfl takersz) rfl ?_
    exact TkRes.of HR.out (take_no H1.out) (tk_out (y := tkZero) (base := w.heap.size + 3) hB (by omega) (by omega) (GvMem.none rfl rfl (Own.none_ _ _ _ _) (Own.none_ _ _ _ _)))
  trace "A"
  go_wp2_with (refine wpList_load_row rfl 44 (.tmp 2) rfl w.heap.size rfl 44 #[.int .i64 id, .bool known, .string name, .int .i64 size, .bool ended, .int .i64 last, .int .i64 sum, .slice A an ac, .slice F fn fc, .int .i64 stage, .int .i64 timer, .int .i64 patience, .int .i64 tries, .int .i64 limit] (0, 0) _ bx Try.underlying44 rfl takersz ?_)
  refine (CO.out _ hB).mono ?_
  rintro e w2 ⟨F1, f1, A1, a1, rfl, hF, hA, hb⟩
  have zr := br.lt
  have zb := hb.size
  replace br := br.step hb
  replace bn := bn.step hb
  replace hB := hB.trans (hb.mono hB.size)
  replace hF := hF.mono (base' := w.heap.size + 3) (by omega)
  replace hA := hA.mono (base' := w.heap.size + 3) (by omega)
  have hM : GvMem w2 (w.heap.size + 3) (pg (⟨id, known, name, size, ended, last, sum, have_, file, stage, timer, patience, tries, limit⟩ : Tk)) [] F1 fn f1 A1 an a1 none 0 0 [] := GvMem.none HFL.out HHL.out hF hA
  clear hb CO bx hF hA
  go_upto_region 4 with fail
  have bq := Blk.new w2 44 #[.int .i64 id, .bool known, .string name, .int .i64 size, .bool ended, .int .i64 last, .int .i64 sum, .slice A1 an a1, .slice F1 fn f1, .int .i64 stage, .int .i64 timer, .int .i64 patience, .int .i64 tries, .int .i64 limit]
  replace br := br.alloc (.cells #[.int .i64 id, .bool known, .string name, .int .i64 size, .bool ended, .int .i64 last, .int .i64 sum, .slice A1 an a1, .slice F1 fn f1, .int .i64 stage, .int .i64 timer, .int .i64 patience, .int .i64 tries, .int .i64 limit] 44)
  replace bn := bn.alloc (.cells #[.int .i64 id, .bool known, .string name, .int .i64 size, .bool ended, .int .i64 last, .int .i64 sum, .slice A1 an a1, .slice F1 fn f1, .int .i64 stage, .int .i64 timer, .int .i64 patience, .int .i64 tries, .int .i64 limit] 44)
  replace hM := hM.step ((Below.refl w2.heap.size w2).alloc (Nat.le_refl _) (.cells #[.int .i64 id, .bool known, .string name, .int .i64 size, .bool ended, .int .i64 last, .int .i64 sum, .slice A1 an a1, .slice F1 fn f1, .int .i64 stage, .int .i64 timer, .int .i64 patience, .int .i64 tries, .int .i64 limit] 44))
  replace hB := hB.alloc hB.size (.cells #[.int .i64 id, .bool known, .string name, .int .i64 size, .bool ended, .int .i64 last, .int .i64 sum, .slice A1 an a1, .slice F1 fn f1, .int .i64 stage, .int .i64 timer, .int .i64 patience, .int .i64 tries, .int .i64 limit] 44)
  obtain ⟨q, hq⟩ : ∃ q, w2.heap.size = q := ⟨_, rfl⟩
  rw [hq] at bq zb ⊢
  have hrq : w.heap.size + 2 ≠ q := by omega
  have hnq : w.heap.size + 1 ≠ q := by omega
  have hq3 : w.heap.size + 3 ≤ q := by omega
  clear hq
  generalize w2.alloc (.cells #[.int .i64 id, .bool known, .string name, .int .i64 size, .bool ended, .int .i64 last, .int .i64 sum, .slice A1 an a1, .slice F1 fn f1, .int .i64 stage, .int .i64 timer, .int .i64 patience, .int .i64 tries, .int .i64 limit] 44) = V0 at *
  trace "B"
  cases r2
  ·
    go_wp2_with (refine wpList_load_row rfl 27 (.tmp 3) rfl (w.heap.size + 1) rfl 27 #[.int .i64 nk, .int .i64 nid, .string nn, .int .i64 ns_, .int .i64 nsum, .int .i64 nat_, .slice D dn dc, .slice G gn gc, .int .i64 nof, .int .i64 ncode] (0, 0) _ bn Try.underlying27 rfl notesz ?_)
    refine (CN.out _ hB).mono ?_
    rintro e w3 ⟨rfl, hb⟩
    replace br := br.step hb
    replace bq := bq.step hb
    replace hM := hM.step hb
    replace hB := hB.trans (hb.mono hB.size)
    clear hb CN bn
    go_wp2_with (first
      | (refine wpList_load_row rfl 44 (.tmp 7) rfl q rfl 44 #[.int .i64 id, .bool known, .string name, .int .i64 size, .bool ended, .int .i64 last, .int .i64 sum, .slice A1 an a1, .slice F1 fn f1, .int .i64 stage, .int .i64 timer, .int .i64 patience, .int .i64 tries, .int .i64 limit] (0, 0) _ bq Try.underlying44 rfl takersz ?_)
      | (refine wpList_store_row rfl 44 (.tmp 4) (.tmp 19) rfl (w.heap.size + 2) #[.int .i64 id, .bool known, .string name, .int .i64 size, .bool ended, .int .i64 last, .int .i64 sum, .slice A1 an a1, .slice F1 fn f1, .int .i64 stage, .int .i64 timer, .int .i64 patience, .int .i64 tries, .int .i64 limit] rfl rfl 44 _ br takersz rfl (by simp [Value.oneCell']) ?_))
    have br9 := br.row #[.int .i64 id, .bool known, .string name, .int .i64 size, .bool ended, .int .i64 last, .int .i64 sum, .slice A1 an a1, .slice F1 fn f1, .int .i64 stage, .int .i64 timer, .int .i64 patience, .int .i64 tries, .int .i64 limit]
    refine bodyPost_ret (v := .tuple #[.agg #[.int .i64 id, .bool known, .string name, .int .i64 size, .bool ended, .int .i64 last, .int .i64 sum, .slice A1 an a1, .slice F1 fn f1, .int .i64 stage, .int .i64 timer, .int .i64 patience, .int .i64 tries, .int .i64 limit], .slice none 0 0, .int .i64 8]) (results_cell_two rfl _ _ (w.heap.size + 2) 44 _ (0, 0) _ rfl rfl rfl br9 Try.underlying44 rfl takersz) rfl ?_
    exact TkRes.of HR.out (take_8 H1.out H2.out) (tk_out (y := (⟨id, known, name, size, ended, last, sum, have_, file, stage, timer, patience, tries, limit⟩ : Tk)) (base := w.heap.size + 3) hB (by omega) (by omega) hM)
  go_wp2_with (refine wpList_load_row rfl 27 (.tmp 3) rfl (w.heap.size + 1) rfl 27 #[.int .i64 nk, .int .i64 nid, .string nn, .int .i64 ns_, .int .i64 nsum, .int .i64 nat_, .slice D dn dc, .slice G gn gc, .int .i64 nof, .int .i64 ncode] (0, 0) _ bn Try.underlying27 rfl notesz ?_)
  refine (CN.out _ hB).mono ?_
  rintro e w3 ⟨rfl, hb⟩
  replace br := br.step hb
  replace bn := bn.step hb
  replace bq := bq.step hb
  replace hM := hM.step hb
  replace hB := hB.trans (hb.mono hB.size)
  clear hb CN
  have n1 := bn.cell' (i := 1) rfl
  have x0 := bq.cell' (i := 0) rfl
  by_cases hid : nid = id
  rotate_left
  ·
    have ib : (nid != id) = true := by rw [bne_iff_ne]; exact hid
    have HI := Lib.hid hid
    clear hid
    go_wp2_with (first
      | (refine wpList_load_row rfl 44 (.tmp 7) rfl q rfl 44 #[.int .i64 id, .bool known, .string name, .int .i64 size, .bool ended, .int .i64 last, .int .i64 sum, .slice A1 an a1, .slice F1 fn f1, .int .i64 stage, .int .i64 timer, .int .i64 patience, .int .i64 tries, .int .i64 limit] (0, 0) _ bq Try.underlying44 rfl takersz ?_)
      | (refine wpList_store_row rfl 44 (.tmp 4) (.tmp 25) rfl (w.heap.size + 2) #[.int .i64 id, .bool known, .string name, .int .i64 size, .bool ended, .int .i64 last, .int .i64 sum, .slice A1 an a1, .slice F1 fn f1, .int .i64 stage, .int .i64 timer, .int .i64 patience, .int .i64 tries, .int .i64 limit] rfl rfl 44 _ br takersz rfl (by simp [Value.oneCell']) ?_))
    have br9 := br.row #[.int .i64 id, .bool known, .string name, .int .i64 size, .bool ended, .int .i64 last, .int .i64 sum, .slice A1 an a1, .slice F1 fn f1, .int .i64 stage, .int .i64 timer, .int .i64 patience, .int .i64 tries, .int .i64 limit]
    refine bodyPost_ret (v := .tuple #[.agg #[.int .i64 id, .bool known, .string name, .int .i64 size, .bool ended, .int .i64 last, .int .i64 sum, .slice A1 an a1, .slice F1 fn f1, .int .i64 stage, .int .i64 timer, .int .i64 patience, .int .i64 tries, .int .i64 limit], .slice none 0 0, .int .i64 10]) (results_cell_two rfl _ _ (w.heap.size + 2) 44 _ (0, 0) _ rfl rfl rfl br9 Try.underlying44 rfl takersz) rfl ?_
    exact TkRes.of HR.out (take_10 H1.out H2.out HI.out) (tk_out (y := (⟨id, known, name, size, ended, last, sum, have_, file, stage, timer, patience, tries, limit⟩ : Tk)) (base := w.heap.size + 3) hB (by omega) (by omega) hM)
  have ib : (nid != id) = false := by rw [bne_eq_false_iff_eq]; exact hid
  have HI := Lib.hid hid
  clear hid
  go_upto_region 8 with fail
  clear n1 ib
  have n0 := bn.cell' (i := 0) rfl
  trace "C"
  have hrg := note_rng H2.out
  dsimp only at hrg
  by_cases h45 : nk = 4 ∨ nk = 5
  ·
    have HE := Lib.hid (take_6 (x := (⟨id, known, name, size, ended, last, sum, have_, file, stage, timer, patience, tries, limit⟩ : Tk)) (n := ⟨nk, nid, nn, ns_, nsum, nat_, nd, ng, nof, ncode⟩) H1.out H2.out HI.out h45)
    clear hrg
    rcases h45 with rfl | rfl
    all_goals
      go_wp2_with (first
        | (refine wpList_load_row rfl 44 (.tmp 7) rfl q rfl 44 #[.int .i64 id, .bool known, .string name, .int .i64 size, .bool ended, .int .i64 last, .int .i64 sum, .slice A1 an a1, .slice F1 fn f1, .int .i64 stage, .int .i64 timer, .int .i64 patience, .int .i64 tries, .int .i64 limit] (0, 0) _ bq Try.underlying44 rfl takersz ?_)
        | (refine wpList_store_row rfl 44 (.tmp 4) (.tmp 34) rfl (w.heap.size + 2) #[.int .i64 id, .bool known, .string name, .int .i64 size, .bool ended, .int .i64 last, .int .i64 sum, .slice A1 an a1, .slice F1 fn f1, .int .i64 stage, .int .i64 timer, .int .i64 patience, .int .i64 tries, .int .i64 limit] rfl rfl 44 _ br takersz rfl (by simp [Value.oneCell']) ?_))
      have br9 := br.row #[.int .i64 id, .bool known, .string name, .int .i64 size, .bool ended, .int .i64 last, .int .i64 sum, .slice A1 an a1, .slice F1 fn f1, .int .i64 stage, .int .i64 timer, .int .i64 patience, .int .i64 tries, .int .i64 limit]
      refine bodyPost_ret (v := .tuple #[.agg #[.int .i64 id, .bool known, .string name, .int .i64 size, .bool ended, .int .i64 last, .int .i64 sum, .slice A1 an a1, .slice F1 fn f1, .int .i64 stage, .int .i64 timer, .int .i64 patience, .int .i64 tries, .int .i64 limit], .slice none 0 0, .int .i64 6]) (results_cell_two rfl _ _ (w.heap.size + 2) 44 _ (0, 0) _ rfl rfl rfl br9 Try.underlying44 rfl takersz) rfl ?_
      exact TkRes.of HR.out (HE.out) (tk_out (y := (⟨id, known, name, size, ended, last, sum, have_, file, stage, timer, patience, tries, limit⟩ : Tk)) (base := w.heap.size + 3) hB (by omega) (by omega) hM)
  have HK := Lib.hid h45
  have hk : nk = 1 ∨ nk = 2 ∨ nk = 3 ∨ nk = 6 := by omega
  have k4 : (nk == 4) = false := by rw [beq_eq_false_iff_ne]; omega
  have k5 : (nk == 5) = false := by rw [beq_eq_false_iff_ne]; omega
  clear hrg h45
  go_upto_region 11 with fail
  trace "D"
  have bs := Blk.new w3 27 #[.int .i64 6, .int .i64 id, .string ⟨#[]⟩, .int .i64 0, .int .i64 0, .int .i64 0, .slice none 0 0, .slice none 0 0, .int .i64 3, .int .i64 0]
  have zw3 : q < w3.heap.size := bq.lt
  replace br := br.alloc (.cells #[.int .i64 6, .int .i64 id, .string ⟨#[]⟩, .int .i64 0, .int .i64 0, .int .i64 0, .slice none 0 0, .slice none 0 0, .int .i64 3, .int .i64 0] 27)
  replace bn := bn.alloc (.cells #[.int .i64 6, .int .i64 id, .string ⟨#[]⟩, .int .i64 0, .int .i64 0, .int .i64 0, .slice none 0 0, .slice none 0 0, .int .i64 3, .int .i64 0] 27)
  replace bq := bq.alloc (.cells #[.int .i64 6, .int .i64 id, .string ⟨#[]⟩, .int .i64 0, .int .i64 0, .int .i64 0, .slice none 0 0, .slice none 0 0, .int .i64 3, .int .i64 0] 27)
  replace hM := hM.step ((Below.refl w3.heap.size w3).alloc (Nat.le_refl _) (.cells #[.int .i64 6, .int .i64 id, .string ⟨#[]⟩, .int .i64 0, .int .i64 0, .int .i64 0, .slice none 0 0, .slice none 0 0, .int .i64 3, .int .i64 0] 27))
  replace hB := hB.alloc hB.size (.cells #[.int .i64 6, .int .i64 id, .string ⟨#[]⟩, .int .i64 0, .int .i64 0, .int .i64 0, .slice none 0 0, .slice none 0 0, .int .i64 3, .int .i64 0] 27)
  obtain ⟨sb, hsb⟩ : ∃ sb, w3.heap.size = sb := ⟨_, rfl⟩
  rw [hsb] at bs zw3 ⊢
  have hsq : sb ≠ q := by omega
  clear hsb x0 n0
  generalize w3.alloc (.cells #[.int .i64 6, .int .i64 id, .string ⟨#[]⟩, .int .i64 0, .int .i64 0, .int .i64 0, .slice none 0 0, .slice none 0 0, .int .i64 3, .int .i64 0] 27) = V1 at *
  have x9 := bq.cell' (i := 9) rfl
  have n0 := bn.cell' (i := 0) rfl
  rcases tk_stage3 H1.out with h | h | h
  all_goals (dsimp only at h; subst h)
  rotate_left
  ·
    by_cases h3 : nk = 3
    ·
      have HE := Lib.hid (take_t H1.out H2.out HI.out HK.out (taket_3e (x := (⟨id, known, name, size, ended, last, sum, have_, file, 3, timer, patience, tries, limit⟩ : Tk)) (n := ⟨nk, nid, nn, ns_, nsum, nat_, nd, ng, nof, ncode⟩) rfl h3))
      subst h3
      go_upto_region 17 with fail
      trace "E"
      clear x9 n0 k4 k5
      refine freeRegion (fun v => Blk v q 44 #[.int .i64 id, .bool known, .string name, .int .i64 size, .bool ended, .int .i64 last, .int .i64 sum, .slice A1 an a1, .slice F1 fn f1, .int .i64 3, .int .i64 timer, .int .i64 patience, .int .i64 tries, .int .i64 limit] ∧ Blk v sb 27 #[.int .i64 6, .int .i64 id, .string ⟨#[]⟩, .int .i64 0, .int .i64 0, .int .i64 0, .slice none 0 0, .slice none 0 0, .int .i64 3, .int .i64 0]) (by kernel_rfl) (by kernel_rfl) ⟨bq.drew, bs.drew⟩ (fun hSS => ?_)
      clear hSS
      replace hM := hM.drewQ
      replace bq := bq.drew
      replace br := br.drew
      replace bn := bn.drew
      replace hB := hB.drew
      replace bs := bs.drew
      generalize V1.drew = V2 at *
      trace "P0b"
      refine free_take 0 (v := ?vb0) rfl (by kernel_rfl) (by kernel_rfl) (fun _ _ _ h => h) (⟨bq, bs⟩) (Or.inl ⟨by rfl, ?yb0⟩) ?rb0
      case yb0 => intro w hSw; obtain ⟨hw, hx⟩ := _root_.id hSw; have e0 := hw.cell' (i := 0) rfl; have e1 := hw.cell' (i := 1) rfl; have e2 := hw.cell' (i := 2) rfl; have e3 := hw.cell' (i := 3) rfl; have e4 := hw.cell' (i := 4) rfl; have e5 := hw.cell' (i := 5) rfl; have e6 := hw.cell' (i := 6) rfl; have e7 := hw.cell' (i := 7) rfl; have e8 := hw.cell' (i := 8) rfl; have e9 := hw.cell' (i := 9) rfl; have e10 := hw.cell' (i := 10) rfl; have e11 := hw.cell' (i := 11) rfl; have e12 := hw.cell' (i := 12) rfl; have e13 := hw.cell' (i := 13) rfl; have d0 := hx.cell' (i := 0) rfl; have d1 := hx.cell' (i := 1) rfl; have d2 := hx.cell' (i := 2) rfl; have d3 := hx.cell' (i := 3) rfl; have d4 := hx.cell' (i := 4) rfl; have d5 := hx.cell' (i := 5) rfl; have d6 := hx.cell' (i := 6) rfl; have d7 := hx.cell' (i := 7) rfl; have d8 := hx.cell' (i := 8) rfl; have d9 := hx.cell' (i := 9) rfl; have hSx := hSw; (try dsimp only at hSw); go_simp; try rfl
      case' rb0 => try simp only [List.getElem_toArray, List.getElem_cons_succ, List.getElem_cons_zero, Act.put, List.setIfInBounds_toArray, List.set_cons_zero, List.set_cons_succ]
      refine free_take 1 (v := ?vb1) rfl (by kernel_rfl) (by kernel_rfl) (fun _ _ _ h => h) (⟨bq, bs⟩) (Or.inl ⟨by rfl, ?yb1⟩) ?rb1
      case yb1 => intro w hSw; obtain ⟨hw, hx⟩ := _root_.id hSw; have e0 := hw.cell' (i := 0) rfl; have e1 := hw.cell' (i := 1) rfl; have e2 := hw.cell' (i := 2) rfl; have e3 := hw.cell' (i := 3) rfl; have e4 := hw.cell' (i := 4) rfl; have e5 := hw.cell' (i := 5) rfl; have e6 := hw.cell' (i := 6) rfl; have e7 := hw.cell' (i := 7) rfl; have e8 := hw.cell' (i := 8) rfl; have e9 := hw.cell' (i := 9) rfl; have e10 := hw.cell' (i := 10) rfl; have e11 := hw.cell' (i := 11) rfl; have e12 := hw.cell' (i := 12) rfl; have e13 := hw.cell' (i := 13) rfl; have d0 := hx.cell' (i := 0) rfl; have d1 := hx.cell' (i := 1) rfl; have d2 := hx.cell' (i := 2) rfl; have d3 := hx.cell' (i := 3) rfl; have d4 := hx.cell' (i := 4) rfl; have d5 := hx.cell' (i := 5) rfl; have d6 := hx.cell' (i := 6) rfl; have d7 := hx.cell' (i := 7) rfl; have d8 := hx.cell' (i := 8) rfl; have d9 := hx.cell' (i := 9) rfl; have hSx := hSw; (try dsimp only at hSw); go_simp; try rfl
      case' rb1 => try simp only [List.getElem_toArray, List.getElem_cons_succ, List.getElem_cons_zero, Act.put, List.setIfInBounds_toArray, List.set_cons_zero, List.set_cons_succ]
      refine free_take 2 (v := ?vb2) rfl (by kernel_rfl) (by kernel_rfl) (fun _ _ _ h => h) (⟨bq, bs⟩) (Or.inl ⟨by rfl, ?yb2⟩) ?rb2
      case yb2 => intro w hSw; obtain ⟨hw, hx⟩ := _root_.id hSw; have e0 := hw.cell' (i := 0) rfl; have e1 := hw.cell' (i := 1) rfl; have e2 := hw.cell' (i := 2) rfl; have e3 := hw.cell' (i := 3) rfl; have e4 := hw.cell' (i := 4) rfl; have e5 := hw.cell' (i := 5) rfl; have e6 := hw.cell' (i := 6) rfl; have e7 := hw.cell' (i := 7) rfl; have e8 := hw.cell' (i := 8) rfl; have e9 := hw.cell' (i := 9) rfl; have e10 := hw.cell' (i := 10) rfl; have e11 := hw.cell' (i := 11) rfl; have e12 := hw.cell' (i := 12) rfl; have e13 := hw.cell' (i := 13) rfl; have d0 := hx.cell' (i := 0) rfl; have d1 := hx.cell' (i := 1) rfl; have d2 := hx.cell' (i := 2) rfl; have d3 := hx.cell' (i := 3) rfl; have d4 := hx.cell' (i := 4) rfl; have d5 := hx.cell' (i := 5) rfl; have d6 := hx.cell' (i := 6) rfl; have d7 := hx.cell' (i := 7) rfl; have d8 := hx.cell' (i := 8) rfl; have d9 := hx.cell' (i := 9) rfl; have hSx := hSw; (try dsimp only at hSw); go_simp; try rfl
      case' rb2 => try simp only [List.getElem_toArray, List.getElem_cons_succ, List.getElem_cons_zero, Act.put, List.setIfInBounds_toArray, List.set_cons_zero, List.set_cons_succ]
      trace "P1b"
      have CDN := Lib.hid (rdone_any (⟨id, known, name, size, ended, last, sum, have_, file, 3, timer, patience, tries, limit⟩ : Tk) F1 fn f1 A1 an a1 0 V2)
      unfold tvv tkv tkc ntv doneN at CDN
      dsimp only at CDN
      refine free_step 3 rfl (by kernel_rfl) (fun K hK => ?cb)
      case cb =>
        go_simp
        refine CDN.out.mono ?_
        rintro e w3 ⟨rfl, hb⟩
        replace bq := bq.step hb
        replace bs := bs.step hb
        replace br := br.step hb
        replace hM := hM.step hb
        replace hB := hB.trans (hb.mono hB.size)
        refine hK _ _ ⟨bq, bs⟩ ?_
        clear hK K hb CDN bn
        try simp only [List.getElem_toArray, List.getElem_cons_succ, List.getElem_cons_zero, Act.put, List.setIfInBounds_toArray, List.set_cons_zero, List.set_cons_succ]
        trace "P2b"
        refine free_step2 4 5 rfl rfl (by kernel_rfl) (fun K hK => ?ab) (fun K hK => ?bb)
        case ab =>
          trace "P3b"
          go_simp
          trace "P4b"
          have bl := Blk.new w3 27 #[.int .i64 6, .int .i64 id, .string ⟨#[]⟩, .int .i64 0, .int .i64 0, .int .i64 0, .slice none 0 0, .slice none 0 0, .int .i64 3, .int .i64 0, .int .i64 5, .int .i64 id, .string ⟨#[]⟩, .int .i64 0, .int .i64 0, .int .i64 0, .slice none 0 0, .slice none 0 0, .int .i64 0, .int .i64 0]
          have bq2 := bq.alloc (.cells #[.int .i64 6, .int .i64 id, .string ⟨#[]⟩, .int .i64 0, .int .i64 0, .int .i64 0, .slice none 0 0, .slice none 0 0, .int .i64 3, .int .i64 0, .int .i64 5, .int .i64 id, .string ⟨#[]⟩, .int .i64 0, .int .i64 0, .int .i64 0, .slice none 0 0, .slice none 0 0, .int .i64 0, .int .i64 0] 27)
          have bs2 := bs.alloc (.cells #[.int .i64 6, .int .i64 id, .string ⟨#[]⟩, .int .i64 0, .int .i64 0, .int .i64 0, .slice none 0 0, .slice none 0 0, .int .i64 3, .int .i64 0, .int .i64 5, .int .i64 id, .string ⟨#[]⟩, .int .i64 0, .int .i64 0, .int .i64 0, .slice none 0 0, .slice none 0 0, .int .i64 0, .int .i64 0] 27)
          have br2 := br.alloc (.cells #[.int .i64 6, .int .i64 id, .string ⟨#[]⟩, .int .i64 0, .int .i64 0, .int .i64 0, .slice none 0 0, .slice none 0 0, .int .i64 3, .int .i64 0, .int .i64 5, .int .i64 id, .string ⟨#[]⟩, .int .i64 0, .int .i64 0, .int .i64 0, .slice none 0 0, .slice none 0 0, .int .i64 0, .int .i64 0] 27)
          have hM2 := hM.step ((Below.refl w3.heap.size w3).alloc (Nat.le_refl _) (.cells #[.int .i64 6, .int .i64 id, .string ⟨#[]⟩, .int .i64 0, .int .i64 0, .int .i64 0, .slice none 0 0, .slice none 0 0, .int .i64 3, .int .i64 0, .int .i64 5, .int .i64 id, .string ⟨#[]⟩, .int .i64 0, .int .i64 0, .int .i64 0, .slice none 0 0, .slice none 0 0, .int .i64 0, .int .i64 0] 27))
          have hB2 := hB.alloc hB.size (.cells #[.int .i64 6, .int .i64 id, .string ⟨#[]⟩, .int .i64 0, .int .i64 0, .int .i64 0, .slice none 0 0, .slice none 0 0, .int .i64 3, .int .i64 0, .int .i64 5, .int .i64 id, .string ⟨#[]⟩, .int .i64 0, .int .i64 0, .int .i64 0, .slice none 0 0, .slice none 0 0, .int .i64 0, .int .i64 0] 27)
          have zb : w.heap.size + 3 ≤ w3.heap.size := by have := bq.lt; omega
          have hON : Own (w3.alloc (.cells #[.int .i64 6, .int .i64 id, .string ⟨#[]⟩, .int .i64 0, .int .i64 0, .int .i64 0, .slice none 0 0, .slice none 0 0, .int .i64 3, .int .i64 0, .int .i64 5, .int .i64 id, .string ⟨#[]⟩, .int .i64 0, .int .i64 0, .int .i64 0, .slice none 0 0, .slice none 0 0, .int .i64 0, .int .i64 0] 27)) (w.heap.size + 3) 27 10 (some ⟨w3.heap.size, 0, none⟩) 2 2 (nts [⟨seenN (⟨id, known, name, size, ended, last, sum, have_, file, 3, timer, patience, tries, limit⟩ : Tk), none, 0, none, 0⟩, ⟨doneN (⟨id, known, name, size, ended, last, sum, have_, file, 3, timer, patience, tries, limit⟩ : Tk) 0, none, 0, none, 0⟩]) := Own.of_block bl zb rfl (Nat.le_refl _) (by unfold maxLen; omega) (by simp) (fun i u h => by simpa [nts, ncs, seenN, doneN] using h)
          trace "P5b"
          refine hK _ _ ⟨bq2, bs2⟩ ?_
          clear hK K
          try simp only [List.getElem_toArray, List.getElem_cons_succ, List.getElem_cons_zero, Act.put, List.setIfInBounds_toArray, List.set_cons_zero, List.set_cons_succ]
          trace "P6b"
          refine free_step 5 rfl (by kernel_rfl) (fun K hK => ?db)
          case db =>
            rw [if_pos (by kernel_rfl)]
            refine wp_store_row 44 (.tmp 4) (.tmp 56) rfl (w.heap.size + 2) #[.int .i64 id, .bool known, .string name, .int .i64 size, .bool ended, .int .i64 last, .int .i64 sum, .slice A1 an a1, .slice F1 fn f1, .int .i64 3, .int .i64 timer, .int .i64 patience, .int .i64 tries, .int .i64 limit] rfl rfl 44 _ br2 takersz rfl (by simp [Value.oneCell']) ?_
            have bq3 := bq2.farRow (g := w.heap.size + 2) (Ne.symm hrq) #[.int .i64 id, .bool known, .string name, .int .i64 size, .bool ended, .int .i64 last, .int .i64 sum, .slice A1 an a1, .slice F1 fn f1, .int .i64 3, .int .i64 timer, .int .i64 patience, .int .i64 tries, .int .i64 limit]
            have bs3 := bs2.farRow (g := w.heap.size + 2) (by omega) #[.int .i64 id, .bool known, .string name, .int .i64 size, .bool ended, .int .i64 last, .int .i64 sum, .slice A1 an a1, .slice F1 fn f1, .int .i64 3, .int .i64 timer, .int .i64 patience, .int .i64 tries, .int .i64 limit]
            have br3 := br2.row #[.int .i64 id, .bool known, .string name, .int .i64 size, .bool ended, .int .i64 last, .int .i64 sum, .slice A1 an a1, .slice F1 fn f1, .int .i64 3, .int .i64 timer, .int .i64 patience, .int .i64 tries, .int .i64 limit]
            refine hK _ _ ⟨bq3, bs3⟩ ?_
            clear hK K
            try simp only [List.getElem_toArray, List.getElem_cons_succ, List.getElem_cons_zero, Act.put, List.setIfInBounds_toArray, List.set_cons_zero, List.set_cons_succ]
            refine free_take 6 (v := ?vbx6) rfl (by kernel_rfl) (by kernel_rfl) (fun _ _ _ h => h) (⟨bq3, bs3⟩) (Or.inl ⟨by rfl, ?ybx6⟩) ?rbx6
            case ybx6 => intro w hSw; (try dsimp only at hSw); go_simp; try rfl
            case' rbx6 => try simp only [List.getElem_toArray, List.getElem_cons_succ, List.getElem_cons_zero, Act.put, List.setIfInBounds_toArray, List.set_cons_zero, List.set_cons_succ]
            refine free_take 7 (v := ?vbx7) rfl (by kernel_rfl) (by kernel_rfl) (fun _ _ _ h => h) (⟨bq3, bs3⟩) (Or.inl ⟨by rfl, ?ybx7⟩) ?rbx7
            case ybx7 => intro w hSw; (try dsimp only at hSw); go_simp; try rfl
            case' rbx7 => try simp only [List.getElem_toArray, List.getElem_cons_succ, List.getElem_cons_zero, Act.put, List.setIfInBounds_toArray, List.set_cons_zero, List.set_cons_succ]
            refine free_end (by kernel_rfl) ?_
            go_wp2_with fail
            refine bodyPost_ret (v := .tuple #[.agg #[.int .i64 id, .bool known, .string name, .int .i64 size, .bool ended, .int .i64 last, .int .i64 sum, .slice A1 an a1, .slice F1 fn f1, .int .i64 3, .int .i64 timer, .int .i64 patience, .int .i64 tries, .int .i64 limit], .slice (some ⟨w3.heap.size, 0, none⟩) 2 2, .int .i64 0]) (results_cell_two rfl _ _ (w.heap.size + 2) 44 _ (0, 0) _ rfl rfl rfl br3 Try.underlying44 rfl takersz) rfl ?_
            exact TkRes.of HR.out (HE.out) (tk_out (y := (⟨id, known, name, size, ended, last, sum, have_, file, 3, timer, patience, tries, limit⟩ : Tk)) (base := w.heap.size + 3) hB2 (by omega) (by omega) (gv_two hM2 hON rfl rfl rfl rfl))
        case bb =>
          rw [if_pos (by kernel_rfl)]
          refine wp_store_row 44 (.tmp 4) (.tmp 56) rfl (w.heap.size + 2) #[.int .i64 id, .bool known, .string name, .int .i64 size, .bool ended, .int .i64 last, .int .i64 sum, .slice A1 an a1, .slice F1 fn f1, .int .i64 3, .int .i64 timer, .int .i64 patience, .int .i64 tries, .int .i64 limit] rfl rfl 44 _ br takersz rfl (by simp [Value.oneCell']) ?_
          replace bq := bq.farRow (g := w.heap.size + 2) (Ne.symm hrq) #[.int .i64 id, .bool known, .string name, .int .i64 size, .bool ended, .int .i64 last, .int .i64 sum, .slice A1 an a1, .slice F1 fn f1, .int .i64 3, .int .i64 timer, .int .i64 patience, .int .i64 tries, .int .i64 limit]
          replace bs := bs.farRow (g := w.heap.size + 2) (by omega) #[.int .i64 id, .bool known, .string name, .int .i64 size, .bool ended, .int .i64 last, .int .i64 sum, .slice A1 an a1, .slice F1 fn f1, .int .i64 3, .int .i64 timer, .int .i64 patience, .int .i64 tries, .int .i64 limit]
          replace br := br.row #[.int .i64 id, .bool known, .string name, .int .i64 size, .bool ended, .int .i64 last, .int .i64 sum, .slice A1 an a1, .slice F1 fn f1, .int .i64 3, .int .i64 timer, .int .i64 patience, .int .i64 tries, .int .i64 limit]
          replace hM := hM.low (r := w.heap.size + 2) (by omega) #[.int .i64 id, .bool known, .string name, .int .i64 size, .bool ended, .int .i64 last, .int .i64 sum, .slice A1 an a1, .slice F1 fn f1, .int .i64 3, .int .i64 timer, .int .i64 patience, .int .i64 tries, .int .i64 limit]
          replace hB := below_row hB (g := w.heap.size + 2) (by omega) #[.int .i64 id, .bool known, .string name, .int .i64 size, .bool ended, .int .i64 last, .int .i64 sum, .slice A1 an a1, .slice F1 fn f1, .int .i64 3, .int .i64 timer, .int .i64 patience, .int .i64 tries, .int .i64 limit]
          refine hK _ _ ⟨bq, bs⟩ ?_
          clear hK K
          try simp only [List.getElem_toArray, List.getElem_cons_succ, List.getElem_cons_zero, Act.put, List.setIfInBounds_toArray, List.set_cons_zero, List.set_cons_succ]
          generalize w3.setRow (w.heap.size + 2) #[.int .i64 id, .bool known, .string name, .int .i64 size, .bool ended, .int .i64 last, .int .i64 sum, .slice A1 an a1, .slice F1 fn f1, .int .i64 3, .int .i64 timer, .int .i64 patience, .int .i64 tries, .int .i64 limit] = V9 at *
          refine free_step 4 rfl (by kernel_rfl) (fun K hK => ?eb)
          case eb =>
            go_simp
            have bl := Blk.new V9 27 #[.int .i64 6, .int .i64 id, .string ⟨#[]⟩, .int .i64 0, .int .i64 0, .int .i64 0, .slice none 0 0, .slice none 0 0, .int .i64 3, .int .i64 0, .int .i64 5, .int .i64 id, .string ⟨#[]⟩, .int .i64 0, .int .i64 0, .int .i64 0, .slice none 0 0, .slice none 0 0, .int .i64 0, .int .i64 0]
            have bq2 := bq.alloc (.cells #[.int .i64 6, .int .i64 id, .string ⟨#[]⟩, .int .i64 0, .int .i64 0, .int .i64 0, .slice none 0 0, .slice none 0 0, .int .i64 3, .int .i64 0, .int .i64 5, .int .i64 id, .string ⟨#[]⟩, .int .i64 0, .int .i64 0, .int .i64 0, .slice none 0 0, .slice none 0 0, .int .i64 0, .int .i64 0] 27)
            have bs2 := bs.alloc (.cells #[.int .i64 6, .int .i64 id, .string ⟨#[]⟩, .int .i64 0, .int .i64 0, .int .i64 0, .slice none 0 0, .slice none 0 0, .int .i64 3, .int .i64 0, .int .i64 5, .int .i64 id, .string ⟨#[]⟩, .int .i64 0, .int .i64 0, .int .i64 0, .slice none 0 0, .slice none 0 0, .int .i64 0, .int .i64 0] 27)
            have br2 := br.alloc (.cells #[.int .i64 6, .int .i64 id, .string ⟨#[]⟩, .int .i64 0, .int .i64 0, .int .i64 0, .slice none 0 0, .slice none 0 0, .int .i64 3, .int .i64 0, .int .i64 5, .int .i64 id, .string ⟨#[]⟩, .int .i64 0, .int .i64 0, .int .i64 0, .slice none 0 0, .slice none 0 0, .int .i64 0, .int .i64 0] 27)
            have hM2 := hM.step ((Below.refl V9.heap.size V9).alloc (Nat.le_refl _) (.cells #[.int .i64 6, .int .i64 id, .string ⟨#[]⟩, .int .i64 0, .int .i64 0, .int .i64 0, .slice none 0 0, .slice none 0 0, .int .i64 3, .int .i64 0, .int .i64 5, .int .i64 id, .string ⟨#[]⟩, .int .i64 0, .int .i64 0, .int .i64 0, .slice none 0 0, .slice none 0 0, .int .i64 0, .int .i64 0] 27))
            have hB2 := hB.alloc hB.size (.cells #[.int .i64 6, .int .i64 id, .string ⟨#[]⟩, .int .i64 0, .int .i64 0, .int .i64 0, .slice none 0 0, .slice none 0 0, .int .i64 3, .int .i64 0, .int .i64 5, .int .i64 id, .string ⟨#[]⟩, .int .i64 0, .int .i64 0, .int .i64 0, .slice none 0 0, .slice none 0 0, .int .i64 0, .int .i64 0] 27)
            have zb : w.heap.size + 3 ≤ V9.heap.size := by have := bq.lt; omega
            have hON : Own (V9.alloc (.cells #[.int .i64 6, .int .i64 id, .string ⟨#[]⟩, .int .i64 0, .int .i64 0, .int .i64 0, .slice none 0 0, .slice none 0 0, .int .i64 3, .int .i64 0, .int .i64 5, .int .i64 id, .string ⟨#[]⟩, .int .i64 0, .int .i64 0, .int .i64 0, .slice none 0 0, .slice none 0 0, .int .i64 0, .int .i64 0] 27)) (w.heap.size + 3) 27 10 (some ⟨V9.heap.size, 0, none⟩) 2 2 (nts [⟨seenN (⟨id, known, name, size, ended, last, sum, have_, file, 3, timer, patience, tries, limit⟩ : Tk), none, 0, none, 0⟩, ⟨doneN (⟨id, known, name, size, ended, last, sum, have_, file, 3, timer, patience, tries, limit⟩ : Tk) 0, none, 0, none, 0⟩]) := Own.of_block bl zb rfl (Nat.le_refl _) (by unfold maxLen; omega) (by simp) (fun i u h => by simpa [nts, ncs, seenN, doneN] using h)
            refine hK _ _ ⟨bq2, bs2⟩ ?_
            clear hK K
            try simp only [List.getElem_toArray, List.getElem_cons_succ, List.getElem_cons_zero, Act.put, List.setIfInBounds_toArray, List.set_cons_zero, List.set_cons_succ]
            refine free_take 6 (v := ?vby6) rfl (by kernel_rfl) (by kernel_rfl) (fun _ _ _ h => h) (⟨bq2, bs2⟩) (Or.inl ⟨by rfl, ?yby6⟩) ?rby6
            case yby6 => intro w hSw; (try dsimp only at hSw); go_simp; try rfl
            case' rby6 => try simp only [List.getElem_toArray, List.getElem_cons_succ, List.getElem_cons_zero, Act.put, List.setIfInBounds_toArray, List.set_cons_zero, List.set_cons_succ]
            refine free_take 7 (v := ?vby7) rfl (by kernel_rfl) (by kernel_rfl) (fun _ _ _ h => h) (⟨bq2, bs2⟩) (Or.inl ⟨by rfl, ?yby7⟩) ?rby7
            case yby7 => intro w hSw; (try dsimp only at hSw); go_simp; try rfl
            case' rby7 => try simp only [List.getElem_toArray, List.getElem_cons_succ, List.getElem_cons_zero, Act.put, List.setIfInBounds_toArray, List.set_cons_zero, List.set_cons_succ]
            refine free_end (by kernel_rfl) ?_
            go_wp2_with fail
            refine bodyPost_ret (v := .tuple #[.agg #[.int .i64 id, .bool known, .string name, .int .i64 size, .bool ended, .int .i64 last, .int .i64 sum, .slice A1 an a1, .slice F1 fn f1, .int .i64 3, .int .i64 timer, .int .i64 patience, .int .i64 tries, .int .i64 limit], .slice (some ⟨V9.heap.size, 0, none⟩) 2 2, .int .i64 0]) (results_cell_two rfl _ _ (w.heap.size + 2) 44 _ (0, 0) _ rfl rfl rfl br2 Try.underlying44 rfl takersz) rfl ?_
            exact TkRes.of HR.out (HE.out) (tk_fin (y := (⟨id, known, name, size, ended, last, sum, have_, file, 3, timer, patience, tries, limit⟩ : Tk)) (base := w.heap.size + 3) hB2 (by omega) (gv_two hM2 hON rfl rfl rfl rfl))
    ·
      have k3 : (nk == 3) = false := by rw [beq_eq_false_iff_ne]; exact h3
      by_cases h6 : nk = 6 ∧ nof = 5
      ·
        have HE := Lib.hid (take_t H1.out H2.out HI.out HK.out (taket_3s (x := (⟨id, known, name, size, ended, last, sum, have_, file, 3, timer, patience, tries, limit⟩ : Tk)) (n := ⟨nk, nid, nn, ns_, nsum, nat_, nd, ng, nof, ncode⟩) rfl h3 h6))
        obtain ⟨rfl, rfl⟩ := h6
        have n8 := bn.cell' (i := 8) rfl
        have kf := bq.frozen
        have x10 := bq.cell' (i := 10) rfl
        go_upto_region 20 with fail
        clear x9 n0 n8 kf x10
        replace hM := hM.turnQ bq (by decide) (by decide) (by decide) ((Turned.refl V1 (fun i => i = q)).set (p := ⟨q, 10, none⟩) (fun _ => rfl) (.int .i64 0))
        replace bq := bq.set_ 10 (.int .i64 0)
        replace br := br.far (p := ⟨q, 10, none⟩) hrq (.int .i64 0)
        replace bn := bn.far (p := ⟨q, 10, none⟩) hnq (.int .i64 0)
        replace hB := hB.setCell (p := ⟨q, 10, none⟩) (by show w.heap.size ≤ q; omega) (.int .i64 0)
        generalize V1.setCell ⟨q, 10, none⟩ (.int .i64 0) = V2 at *
        have kf := bq.frozen
        have x12 := bq.cell' (i := 12) rfl
        have x13 := bq.cell' (i := 13) rfl
        go_upto_region 21 with fail
        trace "F"
        clear kf x12 x13
        replace hM := hM.turnQ bq (by decide) (by decide) (by decide) ((Turned.refl V2 (fun i => i = q)).set (p := ⟨q, 12, none⟩) (fun _ => rfl) (.int .i64 limit))
        replace bq := bq.set_ 12 (.int .i64 limit)
        replace br := br.far (p := ⟨q, 12, none⟩) hrq (.int .i64 limit)
        replace bn := bn.far (p := ⟨q, 12, none⟩) hnq (.int .i64 limit)
        replace hB := hB.setCell (p := ⟨q, 12, none⟩) (by show w.heap.size ≤ q; omega) (.int .i64 limit)
        generalize V2.setCell ⟨q, 12, none⟩ (.int .i64 limit) = V3 at *
        go_wp2_with (first
          | (refine wpList_load_row rfl 44 (.tmp 7) rfl q rfl 44 #[.int .i64 id, .bool known, .string name, .int .i64 size, .bool ended, .int .i64 last, .int .i64 sum, .slice A1 an a1, .slice F1 fn f1, .int .i64 3, .int .i64 0, .int .i64 patience, .int .i64 limit, .int .i64 limit] (0, 0) _ bq Try.underlying44 rfl takersz ?_)
          | (refine wpList_store_row rfl 44 (.tmp 4) (.tmp 73) rfl (w.heap.size + 2) #[.int .i64 id, .bool known, .string name, .int .i64 size, .bool ended, .int .i64 last, .int .i64 sum, .slice A1 an a1, .slice F1 fn f1, .int .i64 3, .int .i64 0, .int .i64 patience, .int .i64 limit, .int .i64 limit] rfl rfl 44 _ br takersz rfl (by simp [Value.oneCell']) ?_))
        have br9 := br.row #[.int .i64 id, .bool known, .string name, .int .i64 size, .bool ended, .int .i64 last, .int .i64 sum, .slice A1 an a1, .slice F1 fn f1, .int .i64 3, .int .i64 0, .int .i64 patience, .int .i64 limit, .int .i64 limit]
        refine bodyPost_ret (v := .tuple #[.agg #[.int .i64 id, .bool known, .string name, .int .i64 size, .bool ended, .int .i64 last, .int .i64 sum, .slice A1 an a1, .slice F1 fn f1, .int .i64 3, .int .i64 0, .int .i64 patience, .int .i64 limit, .int .i64 limit], .slice none 0 0, .int .i64 0]) (results_cell_two rfl _ _ (w.heap.size + 2) 44 _ (0, 0) _ rfl rfl rfl br9 Try.underlying44 rfl takersz) rfl ?_
        exact TkRes.of HR.out (HE.out) (tk_out (y := (⟨id, known, name, size, ended, last, sum, have_, file, 3, 0, patience, limit, limit⟩ : Tk)) (base := w.heap.size + 3) hB (by omega) (by omega) hM)
      ·
        have HE := Lib.hid (take_t H1.out H2.out HI.out HK.out (taket_3n (x := (⟨id, known, name, size, ended, last, sum, have_, file, 3, timer, patience, tries, limit⟩ : Tk)) (n := ⟨nk, nid, nn, ns_, nsum, nat_, nd, ng, nof, ncode⟩) rfl h3 h6))
        have n8 := bn.cell' (i := 8) rfl
        by_cases hk6 : nk = 6
        ·
          have k6 : (nk == 6) = true := by rw [beq_iff_eq]; exact hk6
          have k8 : (nof == 5) = false := by rw [beq_eq_false_iff_ne]; exact fun e => h6 ⟨hk6, e⟩
          clear h6
          go_wp2_with (first
            | (refine wpList_load_row rfl 44 (.tmp 7) rfl q rfl 44 #[.int .i64 id, .bool known, .string name, .int .i64 size, .bool ended, .int .i64 last, .int .i64 sum, .slice A1 an a1, .slice F1 fn f1, .int .i64 3, .int .i64 timer, .int .i64 patience, .int .i64 tries, .int .i64 limit] (0, 0) _ bq Try.underlying44 rfl takersz ?_)
            | (refine wpList_store_row rfl 44 (.tmp 4) (.tmp 73) rfl (w.heap.size + 2) #[.int .i64 id, .bool known, .string name, .int .i64 size, .bool ended, .int .i64 last, .int .i64 sum, .slice A1 an a1, .slice F1 fn f1, .int .i64 3, .int .i64 timer, .int .i64 patience, .int .i64 tries, .int .i64 limit] rfl rfl 44 _ br takersz rfl (by simp [Value.oneCell']) ?_))
          have br9 := br.row #[.int .i64 id, .bool known, .string name, .int .i64 size, .bool ended, .int .i64 last, .int .i64 sum, .slice A1 an a1, .slice F1 fn f1, .int .i64 3, .int .i64 timer, .int .i64 patience, .int .i64 tries, .int .i64 limit]
          refine bodyPost_ret (v := .tuple #[.agg #[.int .i64 id, .bool known, .string name, .int .i64 size, .bool ended, .int .i64 last, .int .i64 sum, .slice A1 an a1, .slice F1 fn f1, .int .i64 3, .int .i64 timer, .int .i64 patience, .int .i64 tries, .int .i64 limit], .slice none 0 0, .int .i64 0]) (results_cell_two rfl _ _ (w.heap.size + 2) 44 _ (0, 0) _ rfl rfl rfl br9 Try.underlying44 rfl takersz) rfl ?_
          exact TkRes.of HR.out (HE.out) (tk_out (y := (⟨id, known, name, size, ended, last, sum, have_, file, 3, timer, patience, tries, limit⟩ : Tk)) (base := w.heap.size + 3) hB (by omega) (by omega) hM)
        ·
          have k6 : (nk == 6) = false := by rw [beq_eq_false_iff_ne]; exact hk6
          clear h6
          go_wp2_with (first
            | (refine wpList_load_row rfl 44 (.tmp 7) rfl q rfl 44 #[.int .i64 id, .bool known, .string name, .int .i64 size, .bool ended, .int .i64 last, .int .i64 sum, .slice A1 an a1, .slice F1 fn f1, .int .i64 3, .int .i64 timer, .int .i64 patience, .int .i64 tries, .int .i64 limit] (0, 0) _ bq Try.underlying44 rfl takersz ?_)
            | (refine wpList_store_row rfl 44 (.tmp 4) (.tmp 73) rfl (w.heap.size + 2) #[.int .i64 id, .bool known, .string name, .int .i64 size, .bool ended, .int .i64 last, .int .i64 sum, .slice A1 an a1, .slice F1 fn f1, .int .i64 3, .int .i64 timer, .int .i64 patience, .int .i64 tries, .int .i64 limit] rfl rfl 44 _ br takersz rfl (by simp [Value.oneCell']) ?_))
          have br9 := br.row #[.int .i64 id, .bool known, .string name, .int .i64 size, .bool ended, .int .i64 last, .int .i64 sum, .slice A1 an a1, .slice F1 fn f1, .int .i64 3, .int .i64 timer, .int .i64 patience, .int .i64 tries, .int .i64 limit]
          refine bodyPost_ret (v := .tuple #[.agg #[.int .i64 id, .bool known, .string name, .int .i64 size, .bool ended, .int .i64 last, .int .i64 sum, .slice A1 an a1, .slice F1 fn f1, .int .i64 3, .int .i64 timer, .int .i64 patience, .int .i64 tries, .int .i64 limit], .slice none 0 0, .int .i64 0]) (results_cell_two rfl _ _ (w.heap.size + 2) 44 _ (0, 0) _ rfl rfl rfl br9 Try.underlying44 rfl takersz) rfl ?_
          exact TkRes.of HR.out (HE.out) (tk_out (y := (⟨id, known, name, size, ended, last, sum, have_, file, 3, timer, patience, tries, limit⟩ : Tk)) (base := w.heap.size + 3) hB (by omega) (by omega) hM)
  ·
    by_cases h3 : nk = 3
    ·
      have HE := Lib.hid (take_t H1.out H2.out HI.out HK.out (taket_4e (x := (⟨id, known, name, size, ended, last, sum, have_, file, 4, timer, patience, tries, limit⟩ : Tk)) (n := ⟨nk, nid, nn, ns_, nsum, nat_, nd, ng, nof, ncode⟩) rfl h3))
      subst h3
      go_upto_region 13 with fail
      trace "G"
      clear x9 n0 k4 k5
      refine freeRegion (fun v => Blk v q 44 #[.int .i64 id, .bool known, .string name, .int .i64 size, .bool ended, .int .i64 last, .int .i64 sum, .slice A1 an a1, .slice F1 fn f1, .int .i64 4, .int .i64 timer, .int .i64 patience, .int .i64 tries, .int .i64 limit] ∧ Blk v sb 27 #[.int .i64 6, .int .i64 id, .string ⟨#[]⟩, .int .i64 0, .int .i64 0, .int .i64 0, .slice none 0 0, .slice none 0 0, .int .i64 3, .int .i64 0]) (by kernel_rfl) (by kernel_rfl) ⟨bq.drew, bs.drew⟩ (fun hSS => ?_)
      clear hSS
      replace hM := hM.drewQ
      replace bq := bq.drew
      replace br := br.drew
      replace bn := bn.drew
      replace hB := hB.drew
      replace bs := bs.drew
      generalize V1.drew = V2 at *
      trace "P0a"
      refine free_take 0 (v := ?va0) rfl (by kernel_rfl) (by kernel_rfl) (fun _ _ _ h => h) (⟨bq, bs⟩) (Or.inl ⟨by rfl, ?ya0⟩) ?ra0
      case ya0 => intro w hSw; obtain ⟨hw, hx⟩ := _root_.id hSw; have e0 := hw.cell' (i := 0) rfl; have e1 := hw.cell' (i := 1) rfl; have e2 := hw.cell' (i := 2) rfl; have e3 := hw.cell' (i := 3) rfl; have e4 := hw.cell' (i := 4) rfl; have e5 := hw.cell' (i := 5) rfl; have e6 := hw.cell' (i := 6) rfl; have e7 := hw.cell' (i := 7) rfl; have e8 := hw.cell' (i := 8) rfl; have e9 := hw.cell' (i := 9) rfl; have e10 := hw.cell' (i := 10) rfl; have e11 := hw.cell' (i := 11) rfl; have e12 := hw.cell' (i := 12) rfl; have e13 := hw.cell' (i := 13) rfl; have d0 := hx.cell' (i := 0) rfl; have d1 := hx.cell' (i := 1) rfl; have d2 := hx.cell' (i := 2) rfl; have d3 := hx.cell' (i := 3) rfl; have d4 := hx.cell' (i := 4) rfl; have d5 := hx.cell' (i := 5) rfl; have d6 := hx.cell' (i := 6) rfl; have d7 := hx.cell' (i := 7) rfl; have d8 := hx.cell' (i := 8) rfl; have d9 := hx.cell' (i := 9) rfl; have hSx := hSw; (try dsimp only at hSw); go_simp; try rfl
      case' ra0 => try simp only [List.getElem_toArray, List.getElem_cons_succ, List.getElem_cons_zero, Act.put, List.setIfInBounds_toArray, List.set_cons_zero, List.set_cons_succ]
      refine free_take 1 (v := ?va1) rfl (by kernel_rfl) (by kernel_rfl) (fun _ _ _ h => h) (⟨bq, bs⟩) (Or.inl ⟨by rfl, ?ya1⟩) ?ra1
      case ya1 => intro w hSw; obtain ⟨hw, hx⟩ := _root_.id hSw; have e0 := hw.cell' (i := 0) rfl; have e1 := hw.cell' (i := 1) rfl; have e2 := hw.cell' (i := 2) rfl; have e3 := hw.cell' (i := 3) rfl; have e4 := hw.cell' (i := 4) rfl; have e5 := hw.cell' (i := 5) rfl; have e6 := hw.cell' (i := 6) rfl; have e7 := hw.cell' (i := 7) rfl; have e8 := hw.cell' (i := 8) rfl; have e9 := hw.cell' (i := 9) rfl; have e10 := hw.cell' (i := 10) rfl; have e11 := hw.cell' (i := 11) rfl; have e12 := hw.cell' (i := 12) rfl; have e13 := hw.cell' (i := 13) rfl; have d0 := hx.cell' (i := 0) rfl; have d1 := hx.cell' (i := 1) rfl; have d2 := hx.cell' (i := 2) rfl; have d3 := hx.cell' (i := 3) rfl; have d4 := hx.cell' (i := 4) rfl; have d5 := hx.cell' (i := 5) rfl; have d6 := hx.cell' (i := 6) rfl; have d7 := hx.cell' (i := 7) rfl; have d8 := hx.cell' (i := 8) rfl; have d9 := hx.cell' (i := 9) rfl; have hSx := hSw; (try dsimp only at hSw); go_simp; try rfl
      case' ra1 => try simp only [List.getElem_toArray, List.getElem_cons_succ, List.getElem_cons_zero, Act.put, List.setIfInBounds_toArray, List.set_cons_zero, List.set_cons_succ]
      refine free_take 2 (v := ?va2) rfl (by kernel_rfl) (by kernel_rfl) (fun _ _ _ h => h) (⟨bq, bs⟩) (Or.inl ⟨by rfl, ?ya2⟩) ?ra2
      case ya2 => intro w hSw; obtain ⟨hw, hx⟩ := _root_.id hSw; have e0 := hw.cell' (i := 0) rfl; have e1 := hw.cell' (i := 1) rfl; have e2 := hw.cell' (i := 2) rfl; have e3 := hw.cell' (i := 3) rfl; have e4 := hw.cell' (i := 4) rfl; have e5 := hw.cell' (i := 5) rfl; have e6 := hw.cell' (i := 6) rfl; have e7 := hw.cell' (i := 7) rfl; have e8 := hw.cell' (i := 8) rfl; have e9 := hw.cell' (i := 9) rfl; have e10 := hw.cell' (i := 10) rfl; have e11 := hw.cell' (i := 11) rfl; have e12 := hw.cell' (i := 12) rfl; have e13 := hw.cell' (i := 13) rfl; have d0 := hx.cell' (i := 0) rfl; have d1 := hx.cell' (i := 1) rfl; have d2 := hx.cell' (i := 2) rfl; have d3 := hx.cell' (i := 3) rfl; have d4 := hx.cell' (i := 4) rfl; have d5 := hx.cell' (i := 5) rfl; have d6 := hx.cell' (i := 6) rfl; have d7 := hx.cell' (i := 7) rfl; have d8 := hx.cell' (i := 8) rfl; have d9 := hx.cell' (i := 9) rfl; have hSx := hSw; (try dsimp only at hSw); go_simp; try rfl
      case' ra2 => try simp only [List.getElem_toArray, List.getElem_cons_succ, List.getElem_cons_zero, Act.put, List.setIfInBounds_toArray, List.set_cons_zero, List.set_cons_succ]
      trace "P1a"
      have CDN := Lib.hid (rdone_any (⟨id, known, name, size, ended, last, sum, have_, file, 4, timer, patience, tries, limit⟩ : Tk) F1 fn f1 A1 an a1 9 V2)
      unfold tvv tkv tkc ntv doneN at CDN
      dsimp only at CDN
      refine free_step 3 rfl (by kernel_rfl) (fun K hK => ?ca)
      case ca =>
        go_simp
        refine CDN.out.mono ?_
        rintro e w3 ⟨rfl, hb⟩
        replace bq := bq.step hb
        replace bs := bs.step hb
        replace br := br.step hb
        replace hM := hM.step hb
        replace hB := hB.trans (hb.mono hB.size)
        refine hK _ _ ⟨bq, bs⟩ ?_
        clear hK K hb CDN bn
        try simp only [List.getElem_toArray, List.getElem_cons_succ, List.getElem_cons_zero, Act.put, List.setIfInBounds_toArray, List.set_cons_zero, List.set_cons_succ]
        trace "P2a"
        refine free_step2 4 5 rfl rfl (by kernel_rfl) (fun K hK => ?aa) (fun K hK => ?ba)
        case aa =>
          trace "P3a"
          go_simp
          trace "P4a"
          have bl := Blk.new w3 27 #[.int .i64 6, .int .i64 id, .string ⟨#[]⟩, .int .i64 0, .int .i64 0, .int .i64 0, .slice none 0 0, .slice none 0 0, .int .i64 3, .int .i64 0, .int .i64 5, .int .i64 id, .string ⟨#[]⟩, .int .i64 0, .int .i64 0, .int .i64 0, .slice none 0 0, .slice none 0 0, .int .i64 0, .int .i64 9]
          have bq2 := bq.alloc (.cells #[.int .i64 6, .int .i64 id, .string ⟨#[]⟩, .int .i64 0, .int .i64 0, .int .i64 0, .slice none 0 0, .slice none 0 0, .int .i64 3, .int .i64 0, .int .i64 5, .int .i64 id, .string ⟨#[]⟩, .int .i64 0, .int .i64 0, .int .i64 0, .slice none 0 0, .slice none 0 0, .int .i64 0, .int .i64 9] 27)
          have bs2 := bs.alloc (.cells #[.int .i64 6, .int .i64 id, .string ⟨#[]⟩, .int .i64 0, .int .i64 0, .int .i64 0, .slice none 0 0, .slice none 0 0, .int .i64 3, .int .i64 0, .int .i64 5, .int .i64 id, .string ⟨#[]⟩, .int .i64 0, .int .i64 0, .int .i64 0, .slice none 0 0, .slice none 0 0, .int .i64 0, .int .i64 9] 27)
          have br2 := br.alloc (.cells #[.int .i64 6, .int .i64 id, .string ⟨#[]⟩, .int .i64 0, .int .i64 0, .int .i64 0, .slice none 0 0, .slice none 0 0, .int .i64 3, .int .i64 0, .int .i64 5, .int .i64 id, .string ⟨#[]⟩, .int .i64 0, .int .i64 0, .int .i64 0, .slice none 0 0, .slice none 0 0, .int .i64 0, .int .i64 9] 27)
          have hM2 := hM.step ((Below.refl w3.heap.size w3).alloc (Nat.le_refl _) (.cells #[.int .i64 6, .int .i64 id, .string ⟨#[]⟩, .int .i64 0, .int .i64 0, .int .i64 0, .slice none 0 0, .slice none 0 0, .int .i64 3, .int .i64 0, .int .i64 5, .int .i64 id, .string ⟨#[]⟩, .int .i64 0, .int .i64 0, .int .i64 0, .slice none 0 0, .slice none 0 0, .int .i64 0, .int .i64 9] 27))
          have hB2 := hB.alloc hB.size (.cells #[.int .i64 6, .int .i64 id, .string ⟨#[]⟩, .int .i64 0, .int .i64 0, .int .i64 0, .slice none 0 0, .slice none 0 0, .int .i64 3, .int .i64 0, .int .i64 5, .int .i64 id, .string ⟨#[]⟩, .int .i64 0, .int .i64 0, .int .i64 0, .slice none 0 0, .slice none 0 0, .int .i64 0, .int .i64 9] 27)
          have zb : w.heap.size + 3 ≤ w3.heap.size := by have := bq.lt; omega
          have hON : Own (w3.alloc (.cells #[.int .i64 6, .int .i64 id, .string ⟨#[]⟩, .int .i64 0, .int .i64 0, .int .i64 0, .slice none 0 0, .slice none 0 0, .int .i64 3, .int .i64 0, .int .i64 5, .int .i64 id, .string ⟨#[]⟩, .int .i64 0, .int .i64 0, .int .i64 0, .slice none 0 0, .slice none 0 0, .int .i64 0, .int .i64 9] 27)) (w.heap.size + 3) 27 10 (some ⟨w3.heap.size, 0, none⟩) 2 2 (nts [⟨seenN (⟨id, known, name, size, ended, last, sum, have_, file, 4, timer, patience, tries, limit⟩ : Tk), none, 0, none, 0⟩, ⟨doneN (⟨id, known, name, size, ended, last, sum, have_, file, 4, timer, patience, tries, limit⟩ : Tk) 9, none, 0, none, 0⟩]) := Own.of_block bl zb rfl (Nat.le_refl _) (by unfold maxLen; omega) (by simp) (fun i u h => by simpa [nts, ncs, seenN, doneN] using h)
          trace "P5a"
          refine hK _ _ ⟨bq2, bs2⟩ ?_
          clear hK K
          try simp only [List.getElem_toArray, List.getElem_cons_succ, List.getElem_cons_zero, Act.put, List.setIfInBounds_toArray, List.set_cons_zero, List.set_cons_succ]
          trace "P6a"
          refine free_step 5 rfl (by kernel_rfl) (fun K hK => ?da)
          case da =>
            rw [if_pos (by kernel_rfl)]
            refine wp_store_row 44 (.tmp 4) (.tmp 44) rfl (w.heap.size + 2) #[.int .i64 id, .bool known, .string name, .int .i64 size, .bool ended, .int .i64 last, .int .i64 sum, .slice A1 an a1, .slice F1 fn f1, .int .i64 4, .int .i64 timer, .int .i64 patience, .int .i64 tries, .int .i64 limit] rfl rfl 44 _ br2 takersz rfl (by simp [Value.oneCell']) ?_
            have bq3 := bq2.farRow (g := w.heap.size + 2) (Ne.symm hrq) #[.int .i64 id, .bool known, .string name, .int .i64 size, .bool ended, .int .i64 last, .int .i64 sum, .slice A1 an a1, .slice F1 fn f1, .int .i64 4, .int .i64 timer, .int .i64 patience, .int .i64 tries, .int .i64 limit]
            have bs3 := bs2.farRow (g := w.heap.size + 2) (by omega) #[.int .i64 id, .bool known, .string name, .int .i64 size, .bool ended, .int .i64 last, .int .i64 sum, .slice A1 an a1, .slice F1 fn f1, .int .i64 4, .int .i64 timer, .int .i64 patience, .int .i64 tries, .int .i64 limit]
            have br3 := br2.row #[.int .i64 id, .bool known, .string name, .int .i64 size, .bool ended, .int .i64 last, .int .i64 sum, .slice A1 an a1, .slice F1 fn f1, .int .i64 4, .int .i64 timer, .int .i64 patience, .int .i64 tries, .int .i64 limit]
            refine hK _ _ ⟨bq3, bs3⟩ ?_
            clear hK K
            try simp only [List.getElem_toArray, List.getElem_cons_succ, List.getElem_cons_zero, Act.put, List.setIfInBounds_toArray, List.set_cons_zero, List.set_cons_succ]
            refine free_take 6 (v := ?vax6) rfl (by kernel_rfl) (by kernel_rfl) (fun _ _ _ h => h) (⟨bq3, bs3⟩) (Or.inl ⟨by rfl, ?yax6⟩) ?rax6
            case yax6 => intro w hSw; (try dsimp only at hSw); go_simp; try rfl
            case' rax6 => try simp only [List.getElem_toArray, List.getElem_cons_succ, List.getElem_cons_zero, Act.put, List.setIfInBounds_toArray, List.set_cons_zero, List.set_cons_succ]
            refine free_take 7 (v := ?vax7) rfl (by kernel_rfl) (by kernel_rfl) (fun _ _ _ h => h) (⟨bq3, bs3⟩) (Or.inl ⟨by rfl, ?yax7⟩) ?rax7
            case yax7 => intro w hSw; (try dsimp only at hSw); go_simp; try rfl
            case' rax7 => try simp only [List.getElem_toArray, List.getElem_cons_succ, List.getElem_cons_zero, Act.put, List.setIfInBounds_toArray, List.set_cons_zero, List.set_cons_succ]
            refine free_end (by kernel_rfl) ?_
            go_wp2_with fail
            refine bodyPost_ret (v := .tuple #[.agg #[.int .i64 id, .bool known, .string name, .int .i64 size, .bool ended, .int .i64 last, .int .i64 sum, .slice A1 an a1, .slice F1 fn f1, .int .i64 4, .int .i64 timer, .int .i64 patience, .int .i64 tries, .int .i64 limit], .slice (some ⟨w3.heap.size, 0, none⟩) 2 2, .int .i64 0]) (results_cell_two rfl _ _ (w.heap.size + 2) 44 _ (0, 0) _ rfl rfl rfl br3 Try.underlying44 rfl takersz) rfl ?_
            exact TkRes.of HR.out (HE.out) (tk_out (y := (⟨id, known, name, size, ended, last, sum, have_, file, 4, timer, patience, tries, limit⟩ : Tk)) (base := w.heap.size + 3) hB2 (by omega) (by omega) (gv_two hM2 hON rfl rfl rfl rfl))
        case ba =>
          rw [if_pos (by kernel_rfl)]
          refine wp_store_row 44 (.tmp 4) (.tmp 44) rfl (w.heap.size + 2) #[.int .i64 id, .bool known, .string name, .int .i64 size, .bool ended, .int .i64 last, .int .i64 sum, .slice A1 an a1, .slice F1 fn f1, .int .i64 4, .int .i64 timer, .int .i64 patience, .int .i64 tries, .int .i64 limit] rfl rfl 44 _ br takersz rfl (by simp [Value.oneCell']) ?_
          replace bq := bq.farRow (g := w.heap.size + 2) (Ne.symm hrq) #[.int .i64 id, .bool known, .string name, .int .i64 size, .bool ended, .int .i64 last, .int .i64 sum, .slice A1 an a1, .slice F1 fn f1, .int .i64 4, .int .i64 timer, .int .i64 patience, .int .i64 tries, .int .i64 limit]
          replace bs := bs.farRow (g := w.heap.size + 2) (by omega) #[.int .i64 id, .bool known, .string name, .int .i64 size, .bool ended, .int .i64 last, .int .i64 sum, .slice A1 an a1, .slice F1 fn f1, .int .i64 4, .int .i64 timer, .int .i64 patience, .int .i64 tries, .int .i64 limit]
          replace br := br.row #[.int .i64 id, .bool known, .string name, .int .i64 size, .bool ended, .int .i64 last, .int .i64 sum, .slice A1 an a1, .slice F1 fn f1, .int .i64 4, .int .i64 timer, .int .i64 patience, .int .i64 tries, .int .i64 limit]
          replace hM := hM.low (r := w.heap.size + 2) (by omega) #[.int .i64 id, .bool known, .string name, .int .i64 size, .bool ended, .int .i64 last, .int .i64 sum, .slice A1 an a1, .slice F1 fn f1, .int .i64 4, .int .i64 timer, .int .i64 patience, .int .i64 tries, .int .i64 limit]
          replace hB := below_row hB (g := w.heap.size + 2) (by omega) #[.int .i64 id, .bool known, .string name, .int .i64 size, .bool ended, .int .i64 last, .int .i64 sum, .slice A1 an a1, .slice F1 fn f1, .int .i64 4, .int .i64 timer, .int .i64 patience, .int .i64 tries, .int .i64 limit]
          refine hK _ _ ⟨bq, bs⟩ ?_
          clear hK K
          try simp only [List.getElem_toArray, List.getElem_cons_succ, List.getElem_cons_zero, Act.put, List.setIfInBounds_toArray, List.set_cons_zero, List.set_cons_succ]
          generalize w3.setRow (w.heap.size + 2) #[.int .i64 id, .bool known, .string name, .int .i64 size, .bool ended, .int .i64 last, .int .i64 sum, .slice A1 an a1, .slice F1 fn f1, .int .i64 4, .int .i64 timer, .int .i64 patience, .int .i64 tries, .int .i64 limit] = V9 at *
          refine free_step 4 rfl (by kernel_rfl) (fun K hK => ?ea)
          case ea =>
            go_simp
            have bl := Blk.new V9 27 #[.int .i64 6, .int .i64 id, .string ⟨#[]⟩, .int .i64 0, .int .i64 0, .int .i64 0, .slice none 0 0, .slice none 0 0, .int .i64 3, .int .i64 0, .int .i64 5, .int .i64 id, .string ⟨#[]⟩, .int .i64 0, .int .i64 0, .int .i64 0, .slice none 0 0, .slice none 0 0, .int .i64 0, .int .i64 9]
            have bq2 := bq.alloc (.cells #[.int .i64 6, .int .i64 id, .string ⟨#[]⟩, .int .i64 0, .int .i64 0, .int .i64 0, .slice none 0 0, .slice none 0 0, .int .i64 3, .int .i64 0, .int .i64 5, .int .i64 id, .string ⟨#[]⟩, .int .i64 0, .int .i64 0, .int .i64 0, .slice none 0 0, .slice none 0 0, .int .i64 0, .int .i64 9] 27)
            have bs2 := bs.alloc (.cells #[.int .i64 6, .int .i64 id, .string ⟨#[]⟩, .int .i64 0, .int .i64 0, .int .i64 0, .slice none 0 0, .slice none 0 0, .int .i64 3, .int .i64 0, .int .i64 5, .int .i64 id, .string ⟨#[]⟩, .int .i64 0, .int .i64 0, .int .i64 0, .slice none 0 0, .slice none 0 0, .int .i64 0, .int .i64 9] 27)
            have br2 := br.alloc (.cells #[.int .i64 6, .int .i64 id, .string ⟨#[]⟩, .int .i64 0, .int .i64 0, .int .i64 0, .slice none 0 0, .slice none 0 0, .int .i64 3, .int .i64 0, .int .i64 5, .int .i64 id, .string ⟨#[]⟩, .int .i64 0, .int .i64 0, .int .i64 0, .slice none 0 0, .slice none 0 0, .int .i64 0, .int .i64 9] 27)
            have hM2 := hM.step ((Below.refl V9.heap.size V9).alloc (Nat.le_refl _) (.cells #[.int .i64 6, .int .i64 id, .string ⟨#[]⟩, .int .i64 0, .int .i64 0, .int .i64 0, .slice none 0 0, .slice none 0 0, .int .i64 3, .int .i64 0, .int .i64 5, .int .i64 id, .string ⟨#[]⟩, .int .i64 0, .int .i64 0, .int .i64 0, .slice none 0 0, .slice none 0 0, .int .i64 0, .int .i64 9] 27))
            have hB2 := hB.alloc hB.size (.cells #[.int .i64 6, .int .i64 id, .string ⟨#[]⟩, .int .i64 0, .int .i64 0, .int .i64 0, .slice none 0 0, .slice none 0 0, .int .i64 3, .int .i64 0, .int .i64 5, .int .i64 id, .string ⟨#[]⟩, .int .i64 0, .int .i64 0, .int .i64 0, .slice none 0 0, .slice none 0 0, .int .i64 0, .int .i64 9] 27)
            have zb : w.heap.size + 3 ≤ V9.heap.size := by have := bq.lt; omega
            have hON : Own (V9.alloc (.cells #[.int .i64 6, .int .i64 id, .string ⟨#[]⟩, .int .i64 0, .int .i64 0, .int .i64 0, .slice none 0 0, .slice none 0 0, .int .i64 3, .int .i64 0, .int .i64 5, .int .i64 id, .string ⟨#[]⟩, .int .i64 0, .int .i64 0, .int .i64 0, .slice none 0 0, .slice none 0 0, .int .i64 0, .int .i64 9] 27)) (w.heap.size + 3) 27 10 (some ⟨V9.heap.size, 0, none⟩) 2 2 (nts [⟨seenN (⟨id, known, name, size, ended, last, sum, have_, file, 4, timer, patience, tries, limit⟩ : Tk), none, 0, none, 0⟩, ⟨doneN (⟨id, known, name, size, ended, last, sum, have_, file, 4, timer, patience, tries, limit⟩ : Tk) 9, none, 0, none, 0⟩]) := Own.of_block bl zb rfl (Nat.le_refl _) (by unfold maxLen; omega) (by simp) (fun i u h => by simpa [nts, ncs, seenN, doneN] using h)
            refine hK _ _ ⟨bq2, bs2⟩ ?_
            clear hK K
            try simp only [List.getElem_toArray, List.getElem_cons_succ, List.getElem_cons_zero, Act.put, List.setIfInBounds_toArray, List.set_cons_zero, List.set_cons_succ]
            refine free_take 6 (v := ?vay6) rfl (by kernel_rfl) (by kernel_rfl) (fun _ _ _ h => h) (⟨bq2, bs2⟩) (Or.inl ⟨by rfl, ?yay6⟩) ?ray6
            case yay6 => intro w hSw; (try dsimp only at hSw); go_simp; try rfl
            case' ray6 => try simp only [List.getElem_toArray, List.getElem_cons_succ, List.getElem_cons_zero, Act.put, List.setIfInBounds_toArray, List.set_cons_zero, List.set_cons_succ]
            refine free_take 7 (v := ?vay7) rfl (by kernel_rfl) (by kernel_rfl) (fun _ _ _ h => h) (⟨bq2, bs2⟩) (Or.inl ⟨by rfl, ?yay7⟩) ?ray7
            case yay7 => intro w hSw; (try dsimp only at hSw); go_simp; try rfl
            case' ray7 => try simp only [List.getElem_toArray, List.getElem_cons_succ, List.getElem_cons_zero, Act.put, List.setIfInBounds_toArray, List.set_cons_zero, List.set_cons_succ]
            refine free_end (by kernel_rfl) ?_
            go_wp2_with fail
            refine bodyPost_ret (v := .tuple #[.agg #[.int .i64 id, .bool known, .string name, .int .i64 size, .bool ended, .int .i64 last, .int .i64 sum, .slice A1 an a1, .slice F1 fn f1, .int .i64 4, .int .i64 timer, .int .i64 patience, .int .i64 tries, .int .i64 limit], .slice (some ⟨V9.heap.size, 0, none⟩) 2 2, .int .i64 0]) (results_cell_two rfl _ _ (w.heap.size + 2) 44 _ (0, 0) _ rfl rfl rfl br2 Try.underlying44 rfl takersz) rfl ?_
            exact TkRes.of HR.out (HE.out) (tk_fin (y := (⟨id, known, name, size, ended, last, sum, have_, file, 4, timer, patience, tries, limit⟩ : Tk)) (base := w.heap.size + 3) hB2 (by omega) (gv_two hM2 hON rfl rfl rfl rfl))
    ·
      have k3 : (nk == 3) = false := by rw [beq_eq_false_iff_ne]; exact h3
      have HE := Lib.hid (take_t H1.out H2.out HI.out HK.out (taket_4n (x := (⟨id, known, name, size, ended, last, sum, have_, file, 4, timer, patience, tries, limit⟩ : Tk)) (n := ⟨nk, nid, nn, ns_, nsum, nat_, nd, ng, nof, ncode⟩) rfl h3))
      go_wp2_with (first
        | (refine wpList_load_row rfl 44 (.tmp 7) rfl q rfl 44 #[.int .i64 id, .bool known, .string name, .int .i64 size, .bool ended, .int .i64 last, .int .i64 sum, .slice A1 an a1, .slice F1 fn f1, .int .i64 4, .int .i64 timer, .int .i64 patience, .int .i64 tries, .int .i64 limit] (0, 0) _ bq Try.underlying44 rfl takersz ?_)
        | (refine wpList_store_row rfl 44 (.tmp 4) (.tmp 49) rfl (w.heap.size + 2) #[.int .i64 id, .bool known, .string name, .int .i64 size, .bool ended, .int .i64 last, .int .i64 sum, .slice A1 an a1, .slice F1 fn f1, .int .i64 4, .int .i64 timer, .int .i64 patience, .int .i64 tries, .int .i64 limit] rfl rfl 44 _ br takersz rfl (by simp [Value.oneCell']) ?_))
      have br9 := br.row #[.int .i64 id, .bool known, .string name, .int .i64 size, .bool ended, .int .i64 last, .int .i64 sum, .slice A1 an a1, .slice F1 fn f1, .int .i64 4, .int .i64 timer, .int .i64 patience, .int .i64 tries, .int .i64 limit]
      refine bodyPost_ret (v := .tuple #[.agg #[.int .i64 id, .bool known, .string name, .int .i64 size, .bool ended, .int .i64 last, .int .i64 sum, .slice A1 an a1, .slice F1 fn f1, .int .i64 4, .int .i64 timer, .int .i64 patience, .int .i64 tries, .int .i64 limit], .slice none 0 0, .int .i64 0]) (results_cell_two rfl _ _ (w.heap.size + 2) 44 _ (0, 0) _ rfl rfl rfl br9 Try.underlying44 rfl takersz) rfl ?_
      exact TkRes.of HR.out (HE.out) (tk_out (y := (⟨id, known, name, size, ended, last, sum, have_, file, 4, timer, patience, tries, limit⟩ : Tk)) (base := w.heap.size + 3) hB (by omega) (by omega) hM)
  exact absurd ⟨H1.out, H2.out, HI.out, HK.out, rfl⟩ hst
end Go.Proofs.Ytianombjgdmbeaa
