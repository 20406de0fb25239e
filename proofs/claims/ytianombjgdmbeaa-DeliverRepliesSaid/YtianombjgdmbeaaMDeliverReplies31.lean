/-
  A note comes to a giver, by the document.
-/
import Derived.Test.YtianombjgdmbeaaMDeliverReplies23
import Derived.Test.YtianombjgdmbeaaMDeliverReplies26
import Derived.Test.YtianombjgdmbeaaMDeliverReplies19
import Derived.Test.YtianombjgdmbeaaMDeliverReplies9
import Derived.Test.YtianombjgdmbeaaMDeliverReplies24
namespace Go.Proofs.Ytianombjgdmbeaa
set_option linter.unusedSimpArgs false
set_option linter.unusedVariables false
open Go.RowKit

set_option maxHeartbeats 12800000 in
set_option maxRecDepth 100000 in
theorem replyOf_any (x : Gv) (F : Option Addr) (fn fc : Nat) (A : Option Addr) (an ac : Nat) (n : Nt) (D : Option Addr) (dn dc : Nat) (G : Option Addr) (gn gc : Nat) (y : Gv) (ns : List Nt) (k : Int) (w : World) (hR : replyR x n = (y, ns, k)) (hf : x.file.length = fn) (ha : x.again.length = an) (hF : Rd w F (bvs x.file)) (hA : Rd w A (gps x.again)) (hfn : fn ≤ 140737488351232) (han : an ≤ 8796093022200)
    (hd : n.data.length = dn) (hg : n.gaps.length = gn) (hD : Rd w D (bvs n.data)) (hG : Rd w G (gps n.gaps)) (hdn : dn ≤ 140737488351232) (hgn : gn ≤ 8796093022200) :
    Calls Try.prog 29 #[gvv x F fn fc A an ac, ntv n D dn dc G gn gc] w fun e w' => GvRes w w' y ns k e := by
  obtain ⟨j0, hj0, hy0, hy1, hy2⟩ := info_parts pairinfo
  have HR := Lib.hid hR
  have CM := Lib.hid (fun (V : World) (hB : Below w.heap.size w V) => rgMay_any x F fn fc A an ac V hf ha (hF.below hB) (hA.below hB) hfn han)
  have CO := Lib.hid (fun (V : World) (hB : Below w.heap.size w V) => giverOf_any x F fn fc A an ac V hf ha (hF.below hB) (hA.below hB) hfn han)
  have CN := Lib.hid (fun (V : World) (hB : Below w.heap.size w V) => noteMay_any n D dn dc G gn gc V hd hg (hG.below hB) hdn hgn)
  have HG := Lib.hid hG
  have HFL := Lib.hid hf
  have HAL := Lib.hid ha
  have HGL := Lib.hid hg
  obtain ⟨r1, hr1⟩ : ∃ r1, gvOk x = r1 := ⟨_, rfl⟩
  obtain ⟨r2, hr2⟩ : ∃ r2, noteOk n = r2 := ⟨_, rfl⟩
  rw [hr1] at CM
  rw [hr2] at CN
  have H1 := Lib.hid hr1
  have H2 := Lib.hid hr2
  clear hR hf ha hF hA hd hg hD hG hr1 hr2
  obtain ⟨id, name, file, most, burst, stage, first, at_, again, timer, patience, tries, limit⟩ := x
  obtain ⟨nk, nid, nn, ns_, nsum, nat_, nd, ng, nof, ncode⟩ := n
  unfold gvv gvc at CM CO ⊢
  unfold ntv at CN ⊢
  dsimp only at CM CO CN HR HG HFL HAL HGL H1 H2 ⊢
  have bx := ((Blk.new w 55 #[.int .i64 id, .string name, .slice F fn fc, .int .i64 most, .int .i64 burst, .int .i64 stage, .bool first, .int .i64 at_, .slice A an ac, .int .i64 timer, .int .i64 patience, .int .i64 tries, .int .i64 limit]).alloc (.cells #[.int .i64 nk, .int .i64 nid, .string nn, .int .i64 ns_, .int .i64 nsum, .int .i64 nat_, .slice D dn dc, .slice G gn gc, .int .i64 nof, .int .i64 ncode] 27)).alloc (.cells #[.int .i64 0, .string ⟨#[]⟩, .slice none 0 0, .int .i64 0, .int .i64 0, .int .i64 0, .bool false, .int .i64 0, .slice none 0 0, .int .i64 0, .int .i64 0, .int .i64 0, .int .i64 0] 55)
  have bn := (Blk.new (w.alloc (.cells #[.int .i64 id, .string name, .slice F fn fc, .int .i64 most, .int .i64 burst, .int .i64 stage, .bool first, .int .i64 at_, .slice A an ac, .int .i64 timer, .int .i64 patience, .int .i64 tries, .int .i64 limit] 55)) 27 #[.int .i64 nk, .int .i64 nid, .string nn, .int .i64 ns_, .int .i64 nsum, .int .i64 nat_, .slice D dn dc, .slice G gn gc, .int .i64 nof, .int .i64 ncode]).alloc (.cells #[.int .i64 0, .string ⟨#[]⟩, .slice none 0 0, .int .i64 0, .int .i64 0, .int .i64 0, .bool false, .int .i64 0, .slice none 0 0, .int .i64 0, .int .i64 0, .int .i64 0, .int .i64 0] 55)
  have br := Blk.new ((w.alloc (.cells #[.int .i64 id, .string name, .slice F fn fc, .int .i64 most, .int .i64 burst, .int .i64 stage, .bool first, .int .i64 at_, .slice A an ac, .int .i64 timer, .int .i64 patience, .int .i64 tries, .int .i64 limit] 55)).alloc (.cells #[.int .i64 nk, .int .i64 nid, .string nn, .int .i64 ns_, .int .i64 nsum, .int .i64 nat_, .slice D dn dc, .slice G gn gc, .int .i64 nof, .int .i64 ncode] 27)) 55 #[.int .i64 0, .string ⟨#[]⟩, .slice none 0 0, .int .i64 0, .int .i64 0, .int .i64 0, .bool false, .int .i64 0, .slice none 0 0, .int .i64 0, .int .i64 0, .int .i64 0, .int .i64 0]
  rw [show (w.alloc (.cells #[.int .i64 id, .string name, .slice F fn fc, .int .i64 most, .int .i64 burst, .int .i64 stage, .bool first, .int .i64 at_, .slice A an ac, .int .i64 timer, .int .i64 patience, .int .i64 tries, .int .i64 limit] 55)).heap.size = w.heap.size + 1 by simp] at bn
  rw [show ((w.alloc (.cells #[.int .i64 id, .string name, .slice F fn fc, .int .i64 most, .int .i64 burst, .int .i64 stage, .bool first, .int .i64 at_, .slice A an ac, .int .i64 timer, .int .i64 patience, .int .i64 tries, .int .i64 limit] 55)).alloc (.cells #[.int .i64 nk, .int .i64 nid, .string nn, .int .i64 ns_, .int .i64 nsum, .int .i64 nat_, .slice D dn dc, .slice G gn gc, .int .i64 nof, .int .i64 ncode] 27)).heap.size = w.heap.size + 2 by simp] at br
  have hB : Below w.heap.size w (((w.alloc (.cells #[.int .i64 id, .string name, .slice F fn fc, .int .i64 most, .int .i64 burst, .int .i64 stage, .bool first, .int .i64 at_, .slice A an ac, .int .i64 timer, .int .i64 patience, .int .i64 tries, .int .i64 limit] 55)).alloc (.cells #[.int .i64 nk, .int .i64 nid, .string nn, .int .i64 ns_, .int .i64 nsum, .int .i64 nat_, .slice D dn dc, .slice G gn gc, .int .i64 nof, .int .i64 ncode] 27)).alloc (.cells #[.int .i64 0, .string ⟨#[]⟩, .slice none 0 0, .int .i64 0, .int .i64 0, .int .i64 0, .bool false, .int .i64 0, .slice none 0 0, .int .i64 0, .int .i64 0, .int .i64 0, .int .i64 0] 55)) := (((Below.refl _ _).alloc (Nat.le_refl _) _).alloc (by simp) _).alloc (by simp; omega) _
  go_enter Try.func29, Try.ntmps29
  go_upto_region 1 with fail
  generalize ((w.alloc (.cells #[.int .i64 id, .string name, .slice F fn fc, .int .i64 most, .int .i64 burst, .int .i64 stage, .bool first, .int .i64 at_, .slice A an ac, .int .i64 timer, .int .i64 patience, .int .i64 tries, .int .i64 limit] 55)).alloc (.cells #[.int .i64 nk, .int .i64 nid, .string nn, .int .i64 ns_, .int .i64 nsum, .int .i64 nat_, .slice D dn dc, .slice G gn gc, .int .i64 nof, .int .i64 ncode] 27)).alloc (.cells #[.int .i64 0, .string ⟨#[]⟩, .slice none 0 0, .int .i64 0, .int .i64 0, .int .i64 0, .bool false, .int .i64 0, .slice none 0 0, .int .i64 0, .int .i64 0, .int .i64 0, .int .i64 0] 55) = W at *
  go_wp2_with (refine wpList_load_row rfl 55 (.tmp 2) rfl w.heap.size rfl 55 #[.int .i64 id, .string name, .slice F fn fc, .int .i64 most, .int .i64 burst, .int .i64 stage, .bool first, .int .i64 at_, .slice A an ac, .int .i64 timer, .int .i64 patience, .int .i64 tries, .int .i64 limit] (0, 0) _ bx Try.underlying55 rfl giversz ?_)
  refine (CM.out _ hB).mono ?_
  rintro e w1 ⟨rfl, hb⟩
  replace bx := bx.step hb
  replace bn := bn.step hb
  replace br := br.step hb
  replace hB := hB.trans (hb.mono hB.size)
  clear hb CM
  cases r1
  ·
    go_wp2_with (refine wpList_store_row rfl 55 (.tmp 4) (.tmp 13) rfl (w.heap.size + 2) #[.int .i64 0, .string ⟨#[]⟩, .slice none 0 0, .int .i64 0, .int .i64 0, .int .i64 0, .bool false, .int .i64 0, .slice none 0 0, .int .i64 0, .int .i64 0, .int .i64 0, .int .i64 0] rfl rfl 55 _ br giversz rfl (by simp [Value.oneCell']) ?_)
    have br2 := br.row #[.int .i64 0, .string ⟨#[]⟩, .slice none 0 0, .int .i64 0, .int .i64 0, .int .i64 0, .bool false, .int .i64 0, .slice none 0 0, .int .i64 0, .int .i64 0, .int .i64 0, .int .i64 0]
    refine bodyPost_ret (v := .tuple #[.agg #[.int .i64 0, .string ⟨#[]⟩, .slice none 0 0, .int .i64 0, .int .i64 0, .int .i64 0, .bool false, .int .i64 0, .slice none 0 0, .int .i64 0, .int .i64 0, .int .i64 0, .int .i64 0], .slice none 0 0, .int .i64 11]) (results_cell_two rfl _ _ (w.heap.size + 2) 55 _ (0, 0) _ rfl rfl rfl br2 Try.underlying55 rfl giversz) rfl ?_
    exact GvRes.of HR.out (reply_0 H1.out) (gv_out (y := gvZero) (base := w.heap.size + 3) hB (by omega) (by omega) (GvMem.none rfl rfl (Own.none_ _ _ _ _) (Own.none_ _ _ _ _)))
  have zr := br.lt
  go_wp2_with (refine wpList_load_row rfl 55 (.tmp 2) rfl w.heap.size rfl 55 #[.int .i64 id, .string name, .slice F fn fc, .int .i64 most, .int .i64 burst, .int .i64 stage, .bool first, .int .i64 at_, .slice A an ac, .int .i64 timer, .int .i64 patience, .int .i64 tries, .int .i64 limit] (0, 0) _ bx Try.underlying55 rfl giversz ?_)
  refine (CO.out _ hB).mono ?_
  rintro e w2 ⟨F1, f1, A1, a1, rfl, hOF, hOA, hb⟩
  replace hOF := hOF.mono (base' := w.heap.size + 3) (by omega)
  replace hOA := hOA.mono (base' := w.heap.size + 3) (by omega)
  have z2 := hb.size
  replace bn := bn.step hb
  replace br := br.step hb
  replace hB := hB.trans (hb.mono hB.size)
  clear hb CO bx
  go_upto_region 4 with fail
  have bp := Blk.new w2 55 #[.int .i64 id, .string name, .slice F1 fn f1, .int .i64 most, .int .i64 burst, .int .i64 stage, .bool first, .int .i64 at_, .slice A1 an a1, .int .i64 timer, .int .i64 patience, .int .i64 tries, .int .i64 limit]
  replace bn := bn.alloc (.cells #[.int .i64 id, .string name, .slice F1 fn f1, .int .i64 most, .int .i64 burst, .int .i64 stage, .bool first, .int .i64 at_, .slice A1 an a1, .int .i64 timer, .int .i64 patience, .int .i64 tries, .int .i64 limit] 55)
  replace br := br.alloc (.cells #[.int .i64 id, .string name, .slice F1 fn f1, .int .i64 most, .int .i64 burst, .int .i64 stage, .bool first, .int .i64 at_, .slice A1 an a1, .int .i64 timer, .int .i64 patience, .int .i64 tries, .int .i64 limit] 55)
  replace hOF := hOF.alloc (.cells #[.int .i64 id, .string name, .slice F1 fn f1, .int .i64 most, .int .i64 burst, .int .i64 stage, .bool first, .int .i64 at_, .slice A1 an a1, .int .i64 timer, .int .i64 patience, .int .i64 tries, .int .i64 limit] 55)
  replace hOA := hOA.alloc (.cells #[.int .i64 id, .string name, .slice F1 fn f1, .int .i64 most, .int .i64 burst, .int .i64 stage, .bool first, .int .i64 at_, .slice A1 an a1, .int .i64 timer, .int .i64 patience, .int .i64 tries, .int .i64 limit] 55)
  replace hB := hB.alloc hB.size (.cells #[.int .i64 id, .string name, .slice F1 fn f1, .int .i64 most, .int .i64 burst, .int .i64 stage, .bool first, .int .i64 at_, .slice A1 an a1, .int .i64 timer, .int .i64 patience, .int .i64 tries, .int .i64 limit] 55)
  have zp : w.heap.size + 3 ≤ w2.heap.size := by omega
  clear z2 zr
  generalize w2.alloc (.cells #[.int .i64 id, .string name, .slice F1 fn f1, .int .i64 most, .int .i64 burst, .int .i64 stage, .bool first, .int .i64 at_, .slice A1 an a1, .int .i64 timer, .int .i64 patience, .int .i64 tries, .int .i64 limit] 55) = W3 at *
  go_wp2_with (refine wpList_load_row rfl 27 (.tmp 3) rfl (w.heap.size + 1) rfl 27 #[.int .i64 nk, .int .i64 nid, .string nn, .int .i64 ns_, .int .i64 nsum, .int .i64 nat_, .slice D dn dc, .slice G gn gc, .int .i64 nof, .int .i64 ncode] (0, 0) _ bn Try.underlying27 rfl notesz ?_)
  refine (CN.out _ hB).mono ?_
  rintro e w3 ⟨rfl, hb⟩
  replace bn := bn.step hb
  replace br := br.step hb
  replace bp := bp.step hb
  replace hOF := hOF.step hb
  replace hOA := hOA.step hb
  replace hB := hB.trans (hb.mono hB.size)
  clear hb CN W3
  cases r2
  ·
    go_wp2_with (first
      | (refine wpList_load_row rfl 55 (.tmp 7) rfl w2.heap.size rfl 55 #[.int .i64 id, .string name, .slice F1 fn f1, .int .i64 most, .int .i64 burst, .int .i64 stage, .bool first, .int .i64 at_, .slice A1 an a1, .int .i64 timer, .int .i64 patience, .int .i64 tries, .int .i64 limit] (0, 0) _ bp Try.underlying55 rfl giversz ?_)
      | (refine wpList_store_row rfl 55 (.tmp 4) (.tmp 19) rfl (w.heap.size + 2) #[.int .i64 id, .string name, .slice F1 fn f1, .int .i64 most, .int .i64 burst, .int .i64 stage, .bool first, .int .i64 at_, .slice A1 an a1, .int .i64 timer, .int .i64 patience, .int .i64 tries, .int .i64 limit] rfl rfl 55 _ br giversz rfl (by simp [Value.oneCell']) ?_))
    have br2 := br.row #[.int .i64 id, .string name, .slice F1 fn f1, .int .i64 most, .int .i64 burst, .int .i64 stage, .bool first, .int .i64 at_, .slice A1 an a1, .int .i64 timer, .int .i64 patience, .int .i64 tries, .int .i64 limit]
    refine bodyPost_ret (v := .tuple #[.agg #[.int .i64 id, .string name, .slice F1 fn f1, .int .i64 most, .int .i64 burst, .int .i64 stage, .bool first, .int .i64 at_, .slice A1 an a1, .int .i64 timer, .int .i64 patience, .int .i64 tries, .int .i64 limit], .slice none 0 0, .int .i64 8]) (results_cell_two rfl _ _ (w.heap.size + 2) 55 _ (0, 0) _ rfl rfl rfl br2 Try.underlying55 rfl giversz) rfl ?_
    exact GvRes.of HR.out (reply_8 H1.out H2.out) (gv_out (base := w.heap.size + 3) hB (by omega) (by omega) (GvMem.none HFL.out HAL.out hOF hOA))
  have n1 := bn.cell' (i := 1) rfl
  have p0 := bp.cell' (i := 0) rfl
  by_cases hid : nid = id
  rotate_left
  ·
    have i1 := bne_t hid
    have HI := Lib.hid hid
    clear hid
    go_wp2_with (first
      | (refine wpList_load_row rfl 55 (.tmp 7) rfl w2.heap.size rfl 55 #[.int .i64 id, .string name, .slice F1 fn f1, .int .i64 most, .int .i64 burst, .int .i64 stage, .bool first, .int .i64 at_, .slice A1 an a1, .int .i64 timer, .int .i64 patience, .int .i64 tries, .int .i64 limit] (0, 0) _ bp Try.underlying55 rfl giversz ?_)
      | (refine wpList_store_row rfl 55 (.tmp 4) (.tmp 25) rfl (w.heap.size + 2) #[.int .i64 id, .string name, .slice F1 fn f1, .int .i64 most, .int .i64 burst, .int .i64 stage, .bool first, .int .i64 at_, .slice A1 an a1, .int .i64 timer, .int .i64 patience, .int .i64 tries, .int .i64 limit] rfl rfl 55 _ br giversz rfl (by simp [Value.oneCell']) ?_))
    have br2 := br.row #[.int .i64 id, .string name, .slice F1 fn f1, .int .i64 most, .int .i64 burst, .int .i64 stage, .bool first, .int .i64 at_, .slice A1 an a1, .int .i64 timer, .int .i64 patience, .int .i64 tries, .int .i64 limit]
    refine bodyPost_ret (v := .tuple #[.agg #[.int .i64 id, .string name, .slice F1 fn f1, .int .i64 most, .int .i64 burst, .int .i64 stage, .bool first, .int .i64 at_, .slice A1 an a1, .int .i64 timer, .int .i64 patience, .int .i64 tries, .int .i64 limit], .slice none 0 0, .int .i64 10]) (results_cell_two rfl _ _ (w.heap.size + 2) 55 _ (0, 0) _ rfl rfl rfl br2 Try.underlying55 rfl giversz) rfl ?_
    exact GvRes.of HR.out (reply_10 H1.out H2.out HI.out) (gv_out (base := w.heap.size + 3) hB (by omega) (by omega) (GvMem.none HFL.out HAL.out hOF hOA))
  have i1 := bne_f hid
  have HI := Lib.hid hid
  clear hid
  have n0 := bn.cell' (i := 0) rfl
  by_cases hk : nk < 4
  ·
    have i4 := bne_t (show nk ≠ 4 by omega)
    have i5 := bne_t (show nk ≠ 5 by omega)
    have i6 := bne_t (show nk ≠ 6 by omega)
    have HK := Lib.hid hk
    clear hk
    go_wp2_with (first
      | (refine wpList_load_row rfl 55 (.tmp 7) rfl w2.heap.size rfl 55 #[.int .i64 id, .string name, .slice F1 fn f1, .int .i64 most, .int .i64 burst, .int .i64 stage, .bool first, .int .i64 at_, .slice A1 an a1, .int .i64 timer, .int .i64 patience, .int .i64 tries, .int .i64 limit] (0, 0) _ bp Try.underlying55 rfl giversz ?_)
      | (refine wpList_store_row rfl 55 (.tmp 4) (.tmp 39) rfl (w.heap.size + 2) #[.int .i64 id, .string name, .slice F1 fn f1, .int .i64 most, .int .i64 burst, .int .i64 stage, .bool first, .int .i64 at_, .slice A1 an a1, .int .i64 timer, .int .i64 patience, .int .i64 tries, .int .i64 limit] rfl rfl 55 _ br giversz rfl (by simp [Value.oneCell']) ?_))
    have br2 := br.row #[.int .i64 id, .string name, .slice F1 fn f1, .int .i64 most, .int .i64 burst, .int .i64 stage, .bool first, .int .i64 at_, .slice A1 an a1, .int .i64 timer, .int .i64 patience, .int .i64 tries, .int .i64 limit]
    refine bodyPost_ret (v := .tuple #[.agg #[.int .i64 id, .string name, .slice F1 fn f1, .int .i64 most, .int .i64 burst, .int .i64 stage, .bool first, .int .i64 at_, .slice A1 an a1, .int .i64 timer, .int .i64 patience, .int .i64 tries, .int .i64 limit], .slice none 0 0, .int .i64 6]) (results_cell_two rfl _ _ (w.heap.size + 2) 55 _ (0, 0) _ rfl rfl rfl br2 Try.underlying55 rfl giversz) rfl ?_
    exact GvRes.of HR.out (reply_6 H1.out H2.out HI.out HK.out) (gv_out (base := w.heap.size + 3) hB (by omega) (by omega) (GvMem.none HFL.out HAL.out hOF hOA))
  have hrg := note_rng H2.out
  dsimp only at hrg
  have HK4 : Hid (4 ≤ nk) := Lib.hid (by omega)
  have key : (nk = 4 ∧ (nk != 4) = false) ∨ (nk = 6 ∧ (nk != 4) = true ∧ (nk != 5) = true ∧ (nk != 6) = false) ∨ (nk = 5 ∧ (nk != 4) = true ∧ (nk != 5) = false) := by
    rcases hrg with h | h | h | h | h | h
    · omega
    · omega
    · omega
    · exact .inl ⟨h, bne_f h⟩
    · exact .inr (.inr ⟨h, bne_t (by omega), bne_f h⟩)
    · exact .inr (.inl ⟨h, bne_t (by omega), bne_t (by omega), bne_f h⟩)
  clear hk hrg
  have p5 := bp.cell' (i := 5) rfl
  obtain ⟨b5, hb5⟩ : ∃ b5, (nk == 5) = b5 := ⟨_, rfl⟩
  by_cases hs4 : stage = 4
  ·
    have j4 := beq_t hs4
    have HS := Lib.hid hs4
    clear hs4 hb5 b5
    rcases key with ⟨-, k4⟩ | ⟨-, k4, k5, k6⟩ | ⟨-, k4, k5⟩
    all_goals
      go_wp2_with (first
        | (refine wpList_load_row rfl 55 (.tmp 7) rfl w2.heap.size rfl 55 #[.int .i64 id, .string name, .slice F1 fn f1, .int .i64 most, .int .i64 burst, .int .i64 stage, .bool first, .int .i64 at_, .slice A1 an a1, .int .i64 timer, .int .i64 patience, .int .i64 tries, .int .i64 limit] (0, 0) _ bp Try.underlying55 rfl giversz ?_)
        | (refine wpList_store_row rfl 55 (.tmp 4) (.tmp 43) rfl (w.heap.size + 2) #[.int .i64 id, .string name, .slice F1 fn f1, .int .i64 most, .int .i64 burst, .int .i64 stage, .bool first, .int .i64 at_, .slice A1 an a1, .int .i64 timer, .int .i64 patience, .int .i64 tries, .int .i64 limit] rfl rfl 55 _ br giversz rfl (by simp [Value.oneCell']) ?_))
      have br2 := br.row #[.int .i64 id, .string name, .slice F1 fn f1, .int .i64 most, .int .i64 burst, .int .i64 stage, .bool first, .int .i64 at_, .slice A1 an a1, .int .i64 timer, .int .i64 patience, .int .i64 tries, .int .i64 limit]
      refine bodyPost_ret (v := .tuple #[.agg #[.int .i64 id, .string name, .slice F1 fn f1, .int .i64 most, .int .i64 burst, .int .i64 stage, .bool first, .int .i64 at_, .slice A1 an a1, .int .i64 timer, .int .i64 patience, .int .i64 tries, .int .i64 limit], .slice none 0 0, .int .i64 0]) (results_cell_two rfl _ _ (w.heap.size + 2) 55 _ (0, 0) _ rfl rfl rfl br2 Try.underlying55 rfl giversz) rfl ?_
      exact GvRes.of HR.out (reply_f H1.out H2.out HI.out (Int.not_lt.2 HK4.out) HS.out) (gv_out (base := w.heap.size + 3) hB (by omega) (by omega) (GvMem.none HFL.out HAL.out hOF hOA))
  have j4 := beq_f hs4
  have HS := Lib.hid hs4
  clear hs4
  by_cases hk5 : nk = 5
  ·
    have i4 := bne_t (show nk ≠ 4 by omega)
    have i5 := bne_f hk5
    have e5 := beq_t hk5
    have HK5 := Lib.hid hk5
    clear hk5 key hb5 b5
    by_cases hs3 : stage = 3
    ·
      have j3 := bne_f hs3
      have HS3 := Lib.hid hs3
      clear hs3
      go_upto_region 20 with fail
      replace bn := bn.drew
      replace br := br.drew
      replace bp := bp.drew
      replace hOF := hOF.drew
      replace hOA := hOA.drew
      replace hB := hB.drew
      refine heldRegion (fun v => Blk v w2.heap.size 55 #[.int .i64 id, .string name, .slice F1 fn f1, .int .i64 most, .int .i64 burst, .int .i64 stage, .bool first, .int .i64 at_, .slice A1 an a1, .int .i64 timer, .int .i64 patience, .int .i64 tries, .int .i64 limit]) 6 (by kernel_rfl) (by kernel_rfl) bp (fun hSS => ?_)
      generalize w3.drew = V at *
      clear hSS
      refine walk_take 0 (v := ?vta0) rfl (by kernel_rfl) (by kernel_rfl) (by kernel_rfl) (fun _ _ _ h => h) (bp) (Or.inl ⟨by rfl, ?yta0⟩) ?rta0
      case yta0 => intro w hSw; obtain hw := _root_.id hSw; have e0 := hw.cell' (i := 0) rfl; have e1 := hw.cell' (i := 1) rfl; have e2 := hw.cell' (i := 2) rfl; have e3 := hw.cell' (i := 3) rfl; have e4 := hw.cell' (i := 4) rfl; have e5 := hw.cell' (i := 5) rfl; have e6 := hw.cell' (i := 6) rfl; have e7 := hw.cell' (i := 7) rfl; have e8 := hw.cell' (i := 8) rfl; have e9 := hw.cell' (i := 9) rfl; have e10 := hw.cell' (i := 10) rfl; have e11 := hw.cell' (i := 11) rfl; have e12 := hw.cell' (i := 12) rfl; have hSx := hSw; (try dsimp only at hSw); go_simp; try rfl
      case' rta0 => try simp only [List.getElem_toArray, List.getElem_cons_succ, List.getElem_cons_zero, Act.put, List.setIfInBounds_toArray, List.set_cons_zero, List.set_cons_succ]
      refine walk_take 1 (v := ?vta1) rfl (by kernel_rfl) (by kernel_rfl) (by kernel_rfl) (fun _ _ _ h => h) (bp) (Or.inl ⟨by rfl, ?yta1⟩) ?rta1
      case yta1 => intro w hSw; obtain hw := _root_.id hSw; have e0 := hw.cell' (i := 0) rfl; have e1 := hw.cell' (i := 1) rfl; have e2 := hw.cell' (i := 2) rfl; have e3 := hw.cell' (i := 3) rfl; have e4 := hw.cell' (i := 4) rfl; have e5 := hw.cell' (i := 5) rfl; have e6 := hw.cell' (i := 6) rfl; have e7 := hw.cell' (i := 7) rfl; have e8 := hw.cell' (i := 8) rfl; have e9 := hw.cell' (i := 9) rfl; have e10 := hw.cell' (i := 10) rfl; have e11 := hw.cell' (i := 11) rfl; have e12 := hw.cell' (i := 12) rfl; have hSx := hSw; (try dsimp only at hSw); go_simp; try rfl
      case' rta1 => try simp only [List.getElem_toArray, List.getElem_cons_succ, List.getElem_cons_zero, Act.put, List.setIfInBounds_toArray, List.set_cons_zero, List.set_cons_succ]
      refine walk_take 2 (v := ?vta2) rfl (by kernel_rfl) (by kernel_rfl) (by kernel_rfl) (fun _ _ _ h => h) (bp) (Or.inl ⟨by rfl, ?yta2⟩) ?rta2
      case yta2 => intro w hSw; obtain hw := _root_.id hSw; have e0 := hw.cell' (i := 0) rfl; have e1 := hw.cell' (i := 1) rfl; have e2 := hw.cell' (i := 2) rfl; have e3 := hw.cell' (i := 3) rfl; have e4 := hw.cell' (i := 4) rfl; have e5 := hw.cell' (i := 5) rfl; have e6 := hw.cell' (i := 6) rfl; have e7 := hw.cell' (i := 7) rfl; have e8 := hw.cell' (i := 8) rfl; have e9 := hw.cell' (i := 9) rfl; have e10 := hw.cell' (i := 10) rfl; have e11 := hw.cell' (i := 11) rfl; have e12 := hw.cell' (i := 12) rfl; have hSx := hSw; (try dsimp only at hSw); go_simp; try rfl
      case' rta2 => try simp only [List.getElem_toArray, List.getElem_cons_succ, List.getElem_cons_zero, Act.put, List.setIfInBounds_toArray, List.set_cons_zero, List.set_cons_succ]
      refine walk_take 3 (v := ?vta3) rfl (by kernel_rfl) (by kernel_rfl) (by kernel_rfl) (fun _ _ _ h => h) (bp) (Or.inl ⟨by rfl, ?yta3⟩) ?rta3
      case yta3 => intro w hSw; obtain hw := _root_.id hSw; have e0 := hw.cell' (i := 0) rfl; have e1 := hw.cell' (i := 1) rfl; have e2 := hw.cell' (i := 2) rfl; have e3 := hw.cell' (i := 3) rfl; have e4 := hw.cell' (i := 4) rfl; have e5 := hw.cell' (i := 5) rfl; have e6 := hw.cell' (i := 6) rfl; have e7 := hw.cell' (i := 7) rfl; have e8 := hw.cell' (i := 8) rfl; have e9 := hw.cell' (i := 9) rfl; have e10 := hw.cell' (i := 10) rfl; have e11 := hw.cell' (i := 11) rfl; have e12 := hw.cell' (i := 12) rfl; have hSx := hSw; (try dsimp only at hSw); go_simp; try rfl
      case' rta3 => try simp only [List.getElem_toArray, List.getElem_cons_succ, List.getElem_cons_zero, Act.put, List.setIfInBounds_toArray, List.set_cons_zero, List.set_cons_succ]
      refine walk_step2 4 5 rfl rfl (by kernel_rfl) (by kernel_rfl) (by kernel_rfl) (fun K hK => ?baa) (fun K hK => ?bba)
      case baa =>
        go_simp
        have hO5 : Own (V.alloc (.cells #[.int .i64 6, .int .i64 id, .string ⟨#[]⟩, .int .i64 0, .int .i64 0, .int .i64 0, .slice none 0 0, .slice none 0 0, .int .i64 5, .int .i64 0] 27)) (w.heap.size + 3) 27 10 (some ⟨V.heap.size, 0, none⟩) 1 1 [.int .i64 6, .int .i64 id, .string ⟨#[]⟩, .int .i64 0, .int .i64 0, .int .i64 0, .slice none 0 0, .slice none 0 0, .int .i64 5, .int .i64 0] := Own.of_block (heap_alloc_new V _) (by have := bp.lt; omega) rfl (Nat.le_refl _) (by unfold maxLen; omega) (by simp) (fun i u h => by simpa using h)
        replace bp := bp.alloc (.cells #[.int .i64 6, .int .i64 id, .string ⟨#[]⟩, .int .i64 0, .int .i64 0, .int .i64 0, .slice none 0 0, .slice none 0 0, .int .i64 5, .int .i64 0] 27)
        replace br := br.alloc (.cells #[.int .i64 6, .int .i64 id, .string ⟨#[]⟩, .int .i64 0, .int .i64 0, .int .i64 0, .slice none 0 0, .slice none 0 0, .int .i64 5, .int .i64 0] 27)
        replace hOF := hOF.alloc (.cells #[.int .i64 6, .int .i64 id, .string ⟨#[]⟩, .int .i64 0, .int .i64 0, .int .i64 0, .slice none 0 0, .slice none 0 0, .int .i64 5, .int .i64 0] 27)
        replace hOA := hOA.alloc (.cells #[.int .i64 6, .int .i64 id, .string ⟨#[]⟩, .int .i64 0, .int .i64 0, .int .i64 0, .slice none 0 0, .slice none 0 0, .int .i64 5, .int .i64 0] 27)
        replace hB := hB.alloc hB.size (.cells #[.int .i64 6, .int .i64 id, .string ⟨#[]⟩, .int .i64 0, .int .i64 0, .int .i64 0, .slice none 0 0, .slice none 0 0, .int .i64 5, .int .i64 0] 27)
        refine hK _ _ bp ?_
        clear hK K
        generalize V.alloc (.cells #[.int .i64 6, .int .i64 id, .string ⟨#[]⟩, .int .i64 0, .int .i64 0, .int .i64 0, .slice none 0 0, .slice none 0 0, .int .i64 5, .int .i64 0] 27) = V2 at *
        try simp only [List.getElem_toArray, List.getElem_cons_succ, List.getElem_cons_zero, Act.put, List.setIfInBounds_toArray, List.set_cons_zero, List.set_cons_succ]
        refine walk_step 5 rfl (by kernel_rfl) (by kernel_rfl) (fun K hK => ?bca)
        case bca =>
          rw [if_pos (by kernel_rfl)]
          refine wp_store_row 55 (.tmp 4) (.tmp 61) rfl (w.heap.size + 2) #[.int .i64 id, .string name, .slice F1 fn f1, .int .i64 most, .int .i64 burst, .int .i64 stage, .bool first, .int .i64 at_, .slice A1 an a1, .int .i64 timer, .int .i64 patience, .int .i64 tries, .int .i64 limit] rfl rfl 55 _ br giversz rfl (by simp [Value.oneCell']) ?_
          replace bp := bp.farRow (g := w.heap.size + 2) (by omega) #[.int .i64 id, .string name, .slice F1 fn f1, .int .i64 most, .int .i64 burst, .int .i64 stage, .bool first, .int .i64 at_, .slice A1 an a1, .int .i64 timer, .int .i64 patience, .int .i64 tries, .int .i64 limit]
          replace br := br.row #[.int .i64 id, .string name, .slice F1 fn f1, .int .i64 most, .int .i64 burst, .int .i64 stage, .bool first, .int .i64 at_, .slice A1 an a1, .int .i64 timer, .int .i64 patience, .int .i64 tries, .int .i64 limit]
          replace hOF := hOF.rowFar (r := w.heap.size + 2) (by omega) #[.int .i64 id, .string name, .slice F1 fn f1, .int .i64 most, .int .i64 burst, .int .i64 stage, .bool first, .int .i64 at_, .slice A1 an a1, .int .i64 timer, .int .i64 patience, .int .i64 tries, .int .i64 limit]
          replace hOA := hOA.rowFar (r := w.heap.size + 2) (by omega) #[.int .i64 id, .string name, .slice F1 fn f1, .int .i64 most, .int .i64 burst, .int .i64 stage, .bool first, .int .i64 at_, .slice A1 an a1, .int .i64 timer, .int .i64 patience, .int .i64 tries, .int .i64 limit]
          replace hB := below_row hB (g := w.heap.size + 2) (by omega) #[.int .i64 id, .string name, .slice F1 fn f1, .int .i64 most, .int .i64 burst, .int .i64 stage, .bool first, .int .i64 at_, .slice A1 an a1, .int .i64 timer, .int .i64 patience, .int .i64 tries, .int .i64 limit]
          replace hO5 := hO5.rowFar (r := w.heap.size + 2) (by omega) #[.int .i64 id, .string name, .slice F1 fn f1, .int .i64 most, .int .i64 burst, .int .i64 stage, .bool first, .int .i64 at_, .slice A1 an a1, .int .i64 timer, .int .i64 patience, .int .i64 tries, .int .i64 limit]
          refine hK _ _ bp ?_
          clear hK K
          generalize V2.setRow (w.heap.size + 2) #[.int .i64 id, .string name, .slice F1 fn f1, .int .i64 most, .int .i64 burst, .int .i64 stage, .bool first, .int .i64 at_, .slice A1 an a1, .int .i64 timer, .int .i64 patience, .int .i64 tries, .int .i64 limit] = V3 at *
          try simp only [List.getElem_toArray, List.getElem_cons_succ, List.getElem_cons_zero, Act.put, List.setIfInBounds_toArray, List.set_cons_zero, List.set_cons_succ]
          refine walk_tail (by kernel_rfl) ?_
          simp only [List.drop_succ_cons, List.drop_zero]
          go_wp2_with fail
          refine bodyPost_ret (v := .tuple #[.agg #[.int .i64 id, .string name, .slice F1 fn f1, .int .i64 most, .int .i64 burst, .int .i64 stage, .bool first, .int .i64 at_, .slice A1 an a1, .int .i64 timer, .int .i64 patience, .int .i64 tries, .int .i64 limit], .slice (some ⟨V.heap.size, 0, none⟩) 1 1, .int .i64 0]) (results_cell_two rfl _ _ (w.heap.size + 2) 55 _ (0, 0) _ rfl rfl rfl br Try.underlying55 rfl giversz) rfl ?_
          exact GvRes.of HR.out ((reply_d H1.out H2.out HI.out (Int.not_lt.2 HK4.out) HS.out HK5.out).trans (by unfold endG; rw [if_pos HS3.out])) (gv_fin (y := ⟨id, name, file, most, burst, stage, first, at_, again, timer, patience, tries, limit⟩) (base := w.heap.size + 3) hB (by omega) (gv_seen (y := ⟨id, name, file, most, burst, stage, first, at_, again, timer, patience, tries, limit⟩) HFL.out HAL.out hOF hOA hO5))
      case bba =>
        rw [if_pos (by kernel_rfl)]
        refine wp_store_row 55 (.tmp 4) (.tmp 61) rfl (w.heap.size + 2) #[.int .i64 id, .string name, .slice F1 fn f1, .int .i64 most, .int .i64 burst, .int .i64 stage, .bool first, .int .i64 at_, .slice A1 an a1, .int .i64 timer, .int .i64 patience, .int .i64 tries, .int .i64 limit] rfl rfl 55 _ br giversz rfl (by simp [Value.oneCell']) ?_
        replace bp := bp.farRow (g := w.heap.size + 2) (by omega) #[.int .i64 id, .string name, .slice F1 fn f1, .int .i64 most, .int .i64 burst, .int .i64 stage, .bool first, .int .i64 at_, .slice A1 an a1, .int .i64 timer, .int .i64 patience, .int .i64 tries, .int .i64 limit]
        replace br := br.row #[.int .i64 id, .string name, .slice F1 fn f1, .int .i64 most, .int .i64 burst, .int .i64 stage, .bool first, .int .i64 at_, .slice A1 an a1, .int .i64 timer, .int .i64 patience, .int .i64 tries, .int .i64 limit]
        replace hOF := hOF.rowFar (r := w.heap.size + 2) (by omega) #[.int .i64 id, .string name, .slice F1 fn f1, .int .i64 most, .int .i64 burst, .int .i64 stage, .bool first, .int .i64 at_, .slice A1 an a1, .int .i64 timer, .int .i64 patience, .int .i64 tries, .int .i64 limit]
        replace hOA := hOA.rowFar (r := w.heap.size + 2) (by omega) #[.int .i64 id, .string name, .slice F1 fn f1, .int .i64 most, .int .i64 burst, .int .i64 stage, .bool first, .int .i64 at_, .slice A1 an a1, .int .i64 timer, .int .i64 patience, .int .i64 tries, .int .i64 limit]
        replace hB := below_row hB (g := w.heap.size + 2) (by omega) #[.int .i64 id, .string name, .slice F1 fn f1, .int .i64 most, .int .i64 burst, .int .i64 stage, .bool first, .int .i64 at_, .slice A1 an a1, .int .i64 timer, .int .i64 patience, .int .i64 tries, .int .i64 limit]
        have hsz : (V.setRow (w.heap.size + 2) #[.int .i64 id, .string name, .slice F1 fn f1, .int .i64 most, .int .i64 burst, .int .i64 stage, .bool first, .int .i64 at_, .slice A1 an a1, .int .i64 timer, .int .i64 patience, .int .i64 tries, .int .i64 limit]).heap.size = V.heap.size := setRow_size _ _ _
        refine hK _ _ bp ?_
        clear hK K
        generalize V.setRow (w.heap.size + 2) #[.int .i64 id, .string name, .slice F1 fn f1, .int .i64 most, .int .i64 burst, .int .i64 stage, .bool first, .int .i64 at_, .slice A1 an a1, .int .i64 timer, .int .i64 patience, .int .i64 tries, .int .i64 limit] = V2 at *
        try simp only [List.getElem_toArray, List.getElem_cons_succ, List.getElem_cons_zero, Act.put, List.setIfInBounds_toArray, List.set_cons_zero, List.set_cons_succ]
        refine walk_step 4 rfl (by kernel_rfl) (by kernel_rfl) (fun K hK => ?bda)
        case bda =>
          go_simp
          have hO5 : Own (V2.alloc (.cells #[.int .i64 6, .int .i64 id, .string ⟨#[]⟩, .int .i64 0, .int .i64 0, .int .i64 0, .slice none 0 0, .slice none 0 0, .int .i64 5, .int .i64 0] 27)) (w.heap.size + 3) 27 10 (some ⟨V2.heap.size, 0, none⟩) 1 1 [.int .i64 6, .int .i64 id, .string ⟨#[]⟩, .int .i64 0, .int .i64 0, .int .i64 0, .slice none 0 0, .slice none 0 0, .int .i64 5, .int .i64 0] := Own.of_block (heap_alloc_new V2 _) (by have := bp.lt; omega) rfl (Nat.le_refl _) (by unfold maxLen; omega) (by simp) (fun i u h => by simpa using h)
          replace bp := bp.alloc (.cells #[.int .i64 6, .int .i64 id, .string ⟨#[]⟩, .int .i64 0, .int .i64 0, .int .i64 0, .slice none 0 0, .slice none 0 0, .int .i64 5, .int .i64 0] 27)
          replace br := br.alloc (.cells #[.int .i64 6, .int .i64 id, .string ⟨#[]⟩, .int .i64 0, .int .i64 0, .int .i64 0, .slice none 0 0, .slice none 0 0, .int .i64 5, .int .i64 0] 27)
          replace hOF := hOF.alloc (.cells #[.int .i64 6, .int .i64 id, .string ⟨#[]⟩, .int .i64 0, .int .i64 0, .int .i64 0, .slice none 0 0, .slice none 0 0, .int .i64 5, .int .i64 0] 27)
          replace hOA := hOA.alloc (.cells #[.int .i64 6, .int .i64 id, .string ⟨#[]⟩, .int .i64 0, .int .i64 0, .int .i64 0, .slice none 0 0, .slice none 0 0, .int .i64 5, .int .i64 0] 27)
          replace hB := hB.alloc hB.size (.cells #[.int .i64 6, .int .i64 id, .string ⟨#[]⟩, .int .i64 0, .int .i64 0, .int .i64 0, .slice none 0 0, .slice none 0 0, .int .i64 5, .int .i64 0] 27)
          refine hK _ _ bp ?_
          clear hK K
          generalize V2.alloc (.cells #[.int .i64 6, .int .i64 id, .string ⟨#[]⟩, .int .i64 0, .int .i64 0, .int .i64 0, .slice none 0 0, .slice none 0 0, .int .i64 5, .int .i64 0] 27) = V3 at *
          try simp only [List.getElem_toArray, List.getElem_cons_succ, List.getElem_cons_zero, Act.put, List.setIfInBounds_toArray, List.set_cons_zero, List.set_cons_succ]
          rw [hsz] at hO5
          refine walk_tail (by kernel_rfl) ?_
          simp only [List.drop_succ_cons, List.drop_zero]
          go_wp2_with fail
          refine bodyPost_ret (v := .tuple #[.agg #[.int .i64 id, .string name, .slice F1 fn f1, .int .i64 most, .int .i64 burst, .int .i64 stage, .bool first, .int .i64 at_, .slice A1 an a1, .int .i64 timer, .int .i64 patience, .int .i64 tries, .int .i64 limit], .slice (some ⟨V.heap.size, 0, none⟩) 1 1, .int .i64 0]) (results_cell_two rfl _ _ (w.heap.size + 2) 55 _ (0, 0) _ rfl rfl rfl br Try.underlying55 rfl giversz) rfl ?_
          exact GvRes.of HR.out ((reply_d H1.out H2.out HI.out (Int.not_lt.2 HK4.out) HS.out HK5.out).trans (by unfold endG; rw [if_pos HS3.out])) (gv_fin (y := ⟨id, name, file, most, burst, stage, first, at_, again, timer, patience, tries, limit⟩) (base := w.heap.size + 3) hB (by omega) (gv_seen (y := ⟨id, name, file, most, burst, stage, first, at_, again, timer, patience, tries, limit⟩) HFL.out HAL.out hOF hOA hO5))
    have j3 := bne_t hs3
    have HS3 := Lib.hid hs3
    clear hs3
    have n9 := bn.cell' (i := 9) rfl
    go_upto_region 14 with fail
    have kf := bp.frozen
    have ys := bp.cell' (i := 5) rfl
    go_upto_region 15 with fail
    clear ys kf
    have hoF := hOF.notBlk bp (by decide)
    have hoA := hOA.notBlk bp (by decide)
    replace bn := bn.far (p := ⟨w2.heap.size, 5, none⟩) (by show w.heap.size + 1 ≠ w2.heap.size; omega) (.int .i64 3)
    replace br := br.far (p := ⟨w2.heap.size, 5, none⟩) (by show w.heap.size + 2 ≠ w2.heap.size; omega) (.int .i64 3)
    replace bp := bp.set_ 5 (.int .i64 3)
    replace hOF := hOF.setFar (p := ⟨w2.heap.size, 5, none⟩) hoF (.int .i64 3)
    replace hOA := hOA.setFar (p := ⟨w2.heap.size, 5, none⟩) hoA (.int .i64 3)
    replace hB := hB.setCell (p := ⟨w2.heap.size, 5, none⟩) (by show w.heap.size ≤ w2.heap.size; omega) (.int .i64 3)
    clear hoF hoA
    generalize w3.setCell ⟨w2.heap.size, 5, none⟩ (.int .i64 3) = V5 at *
    clear n0 n1 n9
    have n9 := bn.cell' (i := 9) rfl
    by_cases hc : ncode = 0
    ·
      have jc := bne_f hc
      have HC := Lib.hid hc
      clear hc
      go_upto_region 17 with fail
      have kf := bp.frozen
      have ys := bp.cell' (i := 8) rfl
      go_upto_region 18 with fail
      clear ys kf
      have hoF := hOF.notBlk bp (by decide)
      have hoA := hOA.notBlk bp (by decide)
      replace bn := bn.far (p := ⟨w2.heap.size, 8, none⟩) (by show w.heap.size + 1 ≠ w2.heap.size; omega) (.slice none 0 0)
      replace br := br.far (p := ⟨w2.heap.size, 8, none⟩) (by show w.heap.size + 2 ≠ w2.heap.size; omega) (.slice none 0 0)
      replace bp := bp.set_ 8 (.slice none 0 0)
      replace hOF := hOF.setFar (p := ⟨w2.heap.size, 8, none⟩) hoF (.slice none 0 0)
      replace hOA := hOA.setFar (p := ⟨w2.heap.size, 8, none⟩) hoA (.slice none 0 0)
      replace hB := hB.setCell (p := ⟨w2.heap.size, 8, none⟩) (by show w.heap.size ≤ w2.heap.size; omega) (.slice none 0 0)
      clear hoF hoA
      generalize V5.setCell ⟨w2.heap.size, 8, none⟩ (.slice none 0 0) = V7 at *
      have kf := bp.frozen
      have ys := bp.cell' (i := 6) rfl
      go_upto_region 19 with fail
      clear ys kf
      have hoF := hOF.notBlk bp (by decide)
      have hoA := hOA.notBlk bp (by decide)
      replace bn := bn.far (p := ⟨w2.heap.size, 6, none⟩) (by show w.heap.size + 1 ≠ w2.heap.size; omega) (.bool false)
      replace br := br.far (p := ⟨w2.heap.size, 6, none⟩) (by show w.heap.size + 2 ≠ w2.heap.size; omega) (.bool false)
      replace bp := bp.set_ 6 (.bool false)
      replace hOF := hOF.setFar (p := ⟨w2.heap.size, 6, none⟩) hoF (.bool false)
      replace hOA := hOA.setFar (p := ⟨w2.heap.size, 6, none⟩) hoA (.bool false)
      replace hB := hB.setCell (p := ⟨w2.heap.size, 6, none⟩) (by show w.heap.size ≤ w2.heap.size; omega) (.bool false)
      clear hoF hoA
      generalize V7.setCell ⟨w2.heap.size, 6, none⟩ (.bool false) = V8 at *
      have p2 := bp.cell' (i := 2) rfl
      have kf := bp.frozen
      have ys := bp.cell' (i := 7) rfl
      go_upto_region 20 with fail
      clear ys kf
      have hoF := hOF.notBlk bp (by decide)
      have hoA := hOA.notBlk bp (by decide)
      replace bn := bn.far (p := ⟨w2.heap.size, 7, none⟩) (by show w.heap.size + 1 ≠ w2.heap.size; omega) (.int .i64 (fn : Int))
      replace br := br.far (p := ⟨w2.heap.size, 7, none⟩) (by show w.heap.size + 2 ≠ w2.heap.size; omega) (.int .i64 (fn : Int))
      replace bp := bp.set_ 7 (.int .i64 (fn : Int))
      replace hOF := hOF.setFar (p := ⟨w2.heap.size, 7, none⟩) hoF (.int .i64 (fn : Int))
      replace hOA := hOA.setFar (p := ⟨w2.heap.size, 7, none⟩) hoA (.int .i64 (fn : Int))
      replace hB := hB.setCell (p := ⟨w2.heap.size, 7, none⟩) (by show w.heap.size ≤ w2.heap.size; omega) (.int .i64 (fn : Int))
      clear hoF hoA
      generalize V8.setCell ⟨w2.heap.size, 7, none⟩ (.int .i64 (fn : Int)) = V9 at *
      skip
      replace bn := bn.drew
      replace br := br.drew
      replace bp := bp.drew
      replace hOF := hOF.drew
      replace hOA := hOA.drew
      replace hB := hB.drew
      refine heldRegion (fun v => Blk v w2.heap.size 55 #[.int .i64 id, .string name, .slice F1 fn f1, .int .i64 most, .int .i64 burst, .int .i64 3, .bool false, .int .i64 (fn : Int), .slice none 0 0, .int .i64 timer, .int .i64 patience, .int .i64 tries, .int .i64 limit]) 6 (by kernel_rfl) (by kernel_rfl) bp (fun hSS => ?_)
      generalize V9.drew = V at *
      clear hSS
      refine walk_take 0 (v := ?vtb0) rfl (by kernel_rfl) (by kernel_rfl) (by kernel_rfl) (fun _ _ _ h => h) (bp) (Or.inl ⟨by rfl, ?ytb0⟩) ?rtb0
      case ytb0 => intro w hSw; obtain hw := _root_.id hSw; have e0 := hw.cell' (i := 0) rfl; have e1 := hw.cell' (i := 1) rfl; have e2 := hw.cell' (i := 2) rfl; have e3 := hw.cell' (i := 3) rfl; have e4 := hw.cell' (i := 4) rfl; have e5 := hw.cell' (i := 5) rfl; have e6 := hw.cell' (i := 6) rfl; have e7 := hw.cell' (i := 7) rfl; have e8 := hw.cell' (i := 8) rfl; have e9 := hw.cell' (i := 9) rfl; have e10 := hw.cell' (i := 10) rfl; have e11 := hw.cell' (i := 11) rfl; have e12 := hw.cell' (i := 12) rfl; have hSx := hSw; (try dsimp only at hSw); go_simp; try rfl
      case' rtb0 => try simp only [List.getElem_toArray, List.getElem_cons_succ, List.getElem_cons_zero, Act.put, List.setIfInBounds_toArray, List.set_cons_zero, List.set_cons_succ]
      refine walk_take 1 (v := ?vtb1) rfl (by kernel_rfl) (by kernel_rfl) (by kernel_rfl) (fun _ _ _ h => h) (bp) (Or.inl ⟨by rfl, ?ytb1⟩) ?rtb1
      case ytb1 => intro w hSw; obtain hw := _root_.id hSw; have e0 := hw.cell' (i := 0) rfl; have e1 := hw.cell' (i := 1) rfl; have e2 := hw.cell' (i := 2) rfl; have e3 := hw.cell' (i := 3) rfl; have e4 := hw.cell' (i := 4) rfl; have e5 := hw.cell' (i := 5) rfl; have e6 := hw.cell' (i := 6) rfl; have e7 := hw.cell' (i := 7) rfl; have e8 := hw.cell' (i := 8) rfl; have e9 := hw.cell' (i := 9) rfl; have e10 := hw.cell' (i := 10) rfl; have e11 := hw.cell' (i := 11) rfl; have e12 := hw.cell' (i := 12) rfl; have hSx := hSw; (try dsimp only at hSw); go_simp; try rfl
      case' rtb1 => try simp only [List.getElem_toArray, List.getElem_cons_succ, List.getElem_cons_zero, Act.put, List.setIfInBounds_toArray, List.set_cons_zero, List.set_cons_succ]
      refine walk_take 2 (v := ?vtb2) rfl (by kernel_rfl) (by kernel_rfl) (by kernel_rfl) (fun _ _ _ h => h) (bp) (Or.inl ⟨by rfl, ?ytb2⟩) ?rtb2
      case ytb2 => intro w hSw; obtain hw := _root_.id hSw; have e0 := hw.cell' (i := 0) rfl; have e1 := hw.cell' (i := 1) rfl; have e2 := hw.cell' (i := 2) rfl; have e3 := hw.cell' (i := 3) rfl; have e4 := hw.cell' (i := 4) rfl; have e5 := hw.cell' (i := 5) rfl; have e6 := hw.cell' (i := 6) rfl; have e7 := hw.cell' (i := 7) rfl; have e8 := hw.cell' (i := 8) rfl; have e9 := hw.cell' (i := 9) rfl; have e10 := hw.cell' (i := 10) rfl; have e11 := hw.cell' (i := 11) rfl; have e12 := hw.cell' (i := 12) rfl; have hSx := hSw; (try dsimp only at hSw); go_simp; try rfl
      case' rtb2 => try simp only [List.getElem_toArray, List.getElem_cons_succ, List.getElem_cons_zero, Act.put, List.setIfInBounds_toArray, List.set_cons_zero, List.set_cons_succ]
      refine walk_take 3 (v := ?vtb3) rfl (by kernel_rfl) (by kernel_rfl) (by kernel_rfl) (fun _ _ _ h => h) (bp) (Or.inl ⟨by rfl, ?ytb3⟩) ?rtb3
      case ytb3 => intro w hSw; obtain hw := _root_.id hSw; have e0 := hw.cell' (i := 0) rfl; have e1 := hw.cell' (i := 1) rfl; have e2 := hw.cell' (i := 2) rfl; have e3 := hw.cell' (i := 3) rfl; have e4 := hw.cell' (i := 4) rfl; have e5 := hw.cell' (i := 5) rfl; have e6 := hw.cell' (i := 6) rfl; have e7 := hw.cell' (i := 7) rfl; have e8 := hw.cell' (i := 8) rfl; have e9 := hw.cell' (i := 9) rfl; have e10 := hw.cell' (i := 10) rfl; have e11 := hw.cell' (i := 11) rfl; have e12 := hw.cell' (i := 12) rfl; have hSx := hSw; (try dsimp only at hSw); go_simp; try rfl
      case' rtb3 => try simp only [List.getElem_toArray, List.getElem_cons_succ, List.getElem_cons_zero, Act.put, List.setIfInBounds_toArray, List.set_cons_zero, List.set_cons_succ]
      refine walk_step2 4 5 rfl rfl (by kernel_rfl) (by kernel_rfl) (by kernel_rfl) (fun K hK => ?bab) (fun K hK => ?bbb)
      case bab =>
        go_simp
        have hO5 : Own (V.alloc (.cells #[.int .i64 6, .int .i64 id, .string ⟨#[]⟩, .int .i64 0, .int .i64 0, .int .i64 0, .slice none 0 0, .slice none 0 0, .int .i64 5, .int .i64 0] 27)) (w.heap.size + 3) 27 10 (some ⟨V.heap.size, 0, none⟩) 1 1 [.int .i64 6, .int .i64 id, .string ⟨#[]⟩, .int .i64 0, .int .i64 0, .int .i64 0, .slice none 0 0, .slice none 0 0, .int .i64 5, .int .i64 0] := Own.of_block (heap_alloc_new V _) (by have := bp.lt; omega) rfl (Nat.le_refl _) (by unfold maxLen; omega) (by simp) (fun i u h => by simpa using h)
        replace bp := bp.alloc (.cells #[.int .i64 6, .int .i64 id, .string ⟨#[]⟩, .int .i64 0, .int .i64 0, .int .i64 0, .slice none 0 0, .slice none 0 0, .int .i64 5, .int .i64 0] 27)
        replace br := br.alloc (.cells #[.int .i64 6, .int .i64 id, .string ⟨#[]⟩, .int .i64 0, .int .i64 0, .int .i64 0, .slice none 0 0, .slice none 0 0, .int .i64 5, .int .i64 0] 27)
        replace hOF := hOF.alloc (.cells #[.int .i64 6, .int .i64 id, .string ⟨#[]⟩, .int .i64 0, .int .i64 0, .int .i64 0, .slice none 0 0, .slice none 0 0, .int .i64 5, .int .i64 0] 27)
        replace hOA := hOA.alloc (.cells #[.int .i64 6, .int .i64 id, .string ⟨#[]⟩, .int .i64 0, .int .i64 0, .int .i64 0, .slice none 0 0, .slice none 0 0, .int .i64 5, .int .i64 0] 27)
        replace hB := hB.alloc hB.size (.cells #[.int .i64 6, .int .i64 id, .string ⟨#[]⟩, .int .i64 0, .int .i64 0, .int .i64 0, .slice none 0 0, .slice none 0 0, .int .i64 5, .int .i64 0] 27)
        refine hK _ _ bp ?_
        clear hK K
        generalize V.alloc (.cells #[.int .i64 6, .int .i64 id, .string ⟨#[]⟩, .int .i64 0, .int .i64 0, .int .i64 0, .slice none 0 0, .slice none 0 0, .int .i64 5, .int .i64 0] 27) = V2 at *
        try simp only [List.getElem_toArray, List.getElem_cons_succ, List.getElem_cons_zero, Act.put, List.setIfInBounds_toArray, List.set_cons_zero, List.set_cons_succ]
        refine walk_step 5 rfl (by kernel_rfl) (by kernel_rfl) (fun K hK => ?bcb)
        case bcb =>
          rw [if_pos (by kernel_rfl)]
          refine wp_store_row 55 (.tmp 4) (.tmp 61) rfl (w.heap.size + 2) #[.int .i64 id, .string name, .slice F1 fn f1, .int .i64 most, .int .i64 burst, .int .i64 3, .bool false, .int .i64 (fn : Int), .slice none 0 0, .int .i64 timer, .int .i64 patience, .int .i64 tries, .int .i64 limit] rfl rfl 55 _ br giversz rfl (by simp [Value.oneCell']) ?_
          replace bp := bp.farRow (g := w.heap.size + 2) (by omega) #[.int .i64 id, .string name, .slice F1 fn f1, .int .i64 most, .int .i64 burst, .int .i64 3, .bool false, .int .i64 (fn : Int), .slice none 0 0, .int .i64 timer, .int .i64 patience, .int .i64 tries, .int .i64 limit]
          replace br := br.row #[.int .i64 id, .string name, .slice F1 fn f1, .int .i64 most, .int .i64 burst, .int .i64 3, .bool false, .int .i64 (fn : Int), .slice none 0 0, .int .i64 timer, .int .i64 patience, .int .i64 tries, .int .i64 limit]
          replace hOF := hOF.rowFar (r := w.heap.size + 2) (by omega) #[.int .i64 id, .string name, .slice F1 fn f1, .int .i64 most, .int .i64 burst, .int .i64 3, .bool false, .int .i64 (fn : Int), .slice none 0 0, .int .i64 timer, .int .i64 patience, .int .i64 tries, .int .i64 limit]
          replace hOA := hOA.rowFar (r := w.heap.size + 2) (by omega) #[.int .i64 id, .string name, .slice F1 fn f1, .int .i64 most, .int .i64 burst, .int .i64 3, .bool false, .int .i64 (fn : Int), .slice none 0 0, .int .i64 timer, .int .i64 patience, .int .i64 tries, .int .i64 limit]
          replace hB := below_row hB (g := w.heap.size + 2) (by omega) #[.int .i64 id, .string name, .slice F1 fn f1, .int .i64 most, .int .i64 burst, .int .i64 3, .bool false, .int .i64 (fn : Int), .slice none 0 0, .int .i64 timer, .int .i64 patience, .int .i64 tries, .int .i64 limit]
          replace hO5 := hO5.rowFar (r := w.heap.size + 2) (by omega) #[.int .i64 id, .string name, .slice F1 fn f1, .int .i64 most, .int .i64 burst, .int .i64 3, .bool false, .int .i64 (fn : Int), .slice none 0 0, .int .i64 timer, .int .i64 patience, .int .i64 tries, .int .i64 limit]
          refine hK _ _ bp ?_
          clear hK K
          generalize V2.setRow (w.heap.size + 2) #[.int .i64 id, .string name, .slice F1 fn f1, .int .i64 most, .int .i64 burst, .int .i64 3, .bool false, .int .i64 (fn : Int), .slice none 0 0, .int .i64 timer, .int .i64 patience, .int .i64 tries, .int .i64 limit] = V3 at *
          try simp only [List.getElem_toArray, List.getElem_cons_succ, List.getElem_cons_zero, Act.put, List.setIfInBounds_toArray, List.set_cons_zero, List.set_cons_succ]
          refine walk_tail (by kernel_rfl) ?_
          simp only [List.drop_succ_cons, List.drop_zero]
          go_wp2_with fail
          refine bodyPost_ret (v := .tuple #[.agg #[.int .i64 id, .string name, .slice F1 fn f1, .int .i64 most, .int .i64 burst, .int .i64 3, .bool false, .int .i64 (fn : Int), .slice none 0 0, .int .i64 timer, .int .i64 patience, .int .i64 tries, .int .i64 limit], .slice (some ⟨V.heap.size, 0, none⟩) 1 1, .int .i64 0]) (results_cell_two rfl _ _ (w.heap.size + 2) 55 _ (0, 0) _ rfl rfl rfl br Try.underlying55 rfl giversz) rfl ?_
          exact GvRes.of HR.out ((reply_d H1.out H2.out HI.out (Int.not_lt.2 HK4.out) HS.out HK5.out).trans (by unfold endG; rw [if_neg HS3.out]; dsimp only; rw [if_pos HC.out, HFL.out])) (gv_fin (y := ⟨id, name, file, most, burst, 3, false, (fn : Int), [], timer, patience, tries, limit⟩) (base := w.heap.size + 3) hB (by omega) (gv_seen (y := ⟨id, name, file, most, burst, 3, false, (fn : Int), [], timer, patience, tries, limit⟩) HFL.out rfl hOF (Own.none_ _ _ _ _) hO5))
      case bbb =>
        rw [if_pos (by kernel_rfl)]
        refine wp_store_row 55 (.tmp 4) (.tmp 61) rfl (w.heap.size + 2) #[.int .i64 id, .string name, .slice F1 fn f1, .int .i64 most, .int .i64 burst, .int .i64 3, .bool false, .int .i64 (fn : Int), .slice none 0 0, .int .i64 timer, .int .i64 patience, .int .i64 tries, .int .i64 limit] rfl rfl 55 _ br giversz rfl (by simp [Value.oneCell']) ?_
        replace bp := bp.farRow (g := w.heap.size + 2) (by omega) #[.int .i64 id, .string name, .slice F1 fn f1, .int .i64 most, .int .i64 burst, .int .i64 3, .bool false, .int .i64 (fn : Int), .slice none 0 0, .int .i64 timer, .int .i64 patience, .int .i64 tries, .int .i64 limit]
        replace br := br.row #[.int .i64 id, .string name, .slice F1 fn f1, .int .i64 most, .int .i64 burst, .int .i64 3, .bool false, .int .i64 (fn : Int), .slice none 0 0, .int .i64 timer, .int .i64 patience, .int .i64 tries, .int .i64 limit]
        replace hOF := hOF.rowFar (r := w.heap.size + 2) (by omega) #[.int .i64 id, .string name, .slice F1 fn f1, .int .i64 most, .int .i64 burst, .int .i64 3, .bool false, .int .i64 (fn : Int), .slice none 0 0, .int .i64 timer, .int .i64 patience, .int .i64 tries, .int .i64 limit]
        replace hOA := hOA.rowFar (r := w.heap.size + 2) (by omega) #[.int .i64 id, .string name, .slice F1 fn f1, .int .i64 most, .int .i64 burst, .int .i64 3, .bool false, .int .i64 (fn : Int), .slice none 0 0, .int .i64 timer, .int .i64 patience, .int .i64 tries, .int .i64 limit]
        replace hB := below_row hB (g := w.heap.size + 2) (by omega) #[.int .i64 id, .string name, .slice F1 fn f1, .int .i64 most, .int .i64 burst, .int .i64 3, .bool false, .int .i64 (fn : Int), .slice none 0 0, .int .i64 timer, .int .i64 patience, .int .i64 tries, .int .i64 limit]
        have hsz : (V.setRow (w.heap.size + 2) #[.int .i64 id, .string name, .slice F1 fn f1, .int .i64 most, .int .i64 burst, .int .i64 3, .bool false, .int .i64 (fn : Int), .slice none 0 0, .int .i64 timer, .int .i64 patience, .int .i64 tries, .int .i64 limit]).heap.size = V.heap.size := setRow_size _ _ _
        refine hK _ _ bp ?_
        clear hK K
        generalize V.setRow (w.heap.size + 2) #[.int .i64 id, .string name, .slice F1 fn f1, .int .i64 most, .int .i64 burst, .int .i64 3, .bool false, .int .i64 (fn : Int), .slice none 0 0, .int .i64 timer, .int .i64 patience, .int .i64 tries, .int .i64 limit] = V2 at *
        try simp only [List.getElem_toArray, List.getElem_cons_succ, List.getElem_cons_zero, Act.put, List.setIfInBounds_toArray, List.set_cons_zero, List.set_cons_succ]
        refine walk_step 4 rfl (by kernel_rfl) (by kernel_rfl) (fun K hK => ?bdb)
        case bdb =>
          go_simp
          have hO5 : Own (V2.alloc (.cells #[.int .i64 6, .int .i64 id, .string ⟨#[]⟩, .int .i64 0, .int .i64 0, .int .i64 0, .slice none 0 0, .slice none 0 0, .int .i64 5, .int .i64 0] 27)) (w.heap.size + 3) 27 10 (some ⟨V2.heap.size, 0, none⟩) 1 1 [.int .i64 6, .int .i64 id, .string ⟨#[]⟩, .int .i64 0, .int .i64 0, .int .i64 0, .slice none 0 0, .slice none 0 0, .int .i64 5, .int .i64 0] := Own.of_block (heap_alloc_new V2 _) (by have := bp.lt; omega) rfl (Nat.le_refl _) (by unfold maxLen; omega) (by simp) (fun i u h => by simpa using h)
          replace bp := bp.alloc (.cells #[.int .i64 6, .int .i64 id, .string ⟨#[]⟩, .int .i64 0, .int .i64 0, .int .i64 0, .slice none 0 0, .slice none 0 0, .int .i64 5, .int .i64 0] 27)
          replace br := br.alloc (.cells #[.int .i64 6, .int .i64 id, .string ⟨#[]⟩, .int .i64 0, .int .i64 0, .int .i64 0, .slice none 0 0, .slice none 0 0, .int .i64 5, .int .i64 0] 27)
          replace hOF := hOF.alloc (.cells #[.int .i64 6, .int .i64 id, .string ⟨#[]⟩, .int .i64 0, .int .i64 0, .int .i64 0, .slice none 0 0, .slice none 0 0, .int .i64 5, .int .i64 0] 27)
          replace hOA := hOA.alloc (.cells #[.int .i64 6, .int .i64 id, .string ⟨#[]⟩, .int .i64 0, .int .i64 0, .int .i64 0, .slice none 0 0, .slice none 0 0, .int .i64 5, .int .i64 0] 27)
          replace hB := hB.alloc hB.size (.cells #[.int .i64 6, .int .i64 id, .string ⟨#[]⟩, .int .i64 0, .int .i64 0, .int .i64 0, .slice none 0 0, .slice none 0 0, .int .i64 5, .int .i64 0] 27)
          refine hK _ _ bp ?_
          clear hK K
          generalize V2.alloc (.cells #[.int .i64 6, .int .i64 id, .string ⟨#[]⟩, .int .i64 0, .int .i64 0, .int .i64 0, .slice none 0 0, .slice none 0 0, .int .i64 5, .int .i64 0] 27) = V3 at *
          try simp only [List.getElem_toArray, List.getElem_cons_succ, List.getElem_cons_zero, Act.put, List.setIfInBounds_toArray, List.set_cons_zero, List.set_cons_succ]
          rw [hsz] at hO5
          refine walk_tail (by kernel_rfl) ?_
          simp only [List.drop_succ_cons, List.drop_zero]
          go_wp2_with fail
          refine bodyPost_ret (v := .tuple #[.agg #[.int .i64 id, .string name, .slice F1 fn f1, .int .i64 most, .int .i64 burst, .int .i64 3, .bool false, .int .i64 (fn : Int), .slice none 0 0, .int .i64 timer, .int .i64 patience, .int .i64 tries, .int .i64 limit], .slice (some ⟨V.heap.size, 0, none⟩) 1 1, .int .i64 0]) (results_cell_two rfl _ _ (w.heap.size + 2) 55 _ (0, 0) _ rfl rfl rfl br Try.underlying55 rfl giversz) rfl ?_
          exact GvRes.of HR.out ((reply_d H1.out H2.out HI.out (Int.not_lt.2 HK4.out) HS.out HK5.out).trans (by unfold endG; rw [if_neg HS3.out]; dsimp only; rw [if_pos HC.out, HFL.out])) (gv_fin (y := ⟨id, name, file, most, burst, 3, false, (fn : Int), [], timer, patience, tries, limit⟩) (base := w.heap.size + 3) hB (by omega) (gv_seen (y := ⟨id, name, file, most, burst, 3, false, (fn : Int), [], timer, patience, tries, limit⟩) HFL.out rfl hOF (Own.none_ _ _ _ _) hO5))
    ·
      have jc := bne_t hc
      have HC := Lib.hid hc
      clear hc
      go_upto_region 16 with fail
      have kf := bp.frozen
      have ys := bp.cell' (i := 5) rfl
      go_upto_region 17 with fail
      clear ys kf
      have hoF := hOF.notBlk bp (by decide)
      have hoA := hOA.notBlk bp (by decide)
      replace bn := bn.far (p := ⟨w2.heap.size, 5, none⟩) (by show w.heap.size + 1 ≠ w2.heap.size; omega) (.int .i64 4)
      replace br := br.far (p := ⟨w2.heap.size, 5, none⟩) (by show w.heap.size + 2 ≠ w2.heap.size; omega) (.int .i64 4)
      replace bp := bp.set_ 5 (.int .i64 4)
      replace hOF := hOF.setFar (p := ⟨w2.heap.size, 5, none⟩) hoF (.int .i64 4)
      replace hOA := hOA.setFar (p := ⟨w2.heap.size, 5, none⟩) hoA (.int .i64 4)
      replace hB := hB.setCell (p := ⟨w2.heap.size, 5, none⟩) (by show w.heap.size ≤ w2.heap.size; omega) (.int .i64 4)
      clear hoF hoA
      generalize V5.setCell ⟨w2.heap.size, 5, none⟩ (.int .i64 4) = V6 at *
      have kf := bp.frozen
      have ys := bp.cell' (i := 8) rfl
      go_upto_region 18 with fail
      clear ys kf
      have hoF := hOF.notBlk bp (by decide)
      have hoA := hOA.notBlk bp (by decide)
      replace bn := bn.far (p := ⟨w2.heap.size, 8, none⟩) (by show w.heap.size + 1 ≠ w2.heap.size; omega) (.slice none 0 0)
      replace br := br.far (p := ⟨w2.heap.size, 8, none⟩) (by show w.heap.size + 2 ≠ w2.heap.size; omega) (.slice none 0 0)
      replace bp := bp.set_ 8 (.slice none 0 0)
      replace hOF := hOF.setFar (p := ⟨w2.heap.size, 8, none⟩) hoF (.slice none 0 0)
      replace hOA := hOA.setFar (p := ⟨w2.heap.size, 8, none⟩) hoA (.slice none 0 0)
      replace hB := hB.setCell (p := ⟨w2.heap.size, 8, none⟩) (by show w.heap.size ≤ w2.heap.size; omega) (.slice none 0 0)
      clear hoF hoA
      generalize V6.setCell ⟨w2.heap.size, 8, none⟩ (.slice none 0 0) = V7 at *
      have kf := bp.frozen
      have ys := bp.cell' (i := 6) rfl
      go_upto_region 19 with fail
      clear ys kf
      have hoF := hOF.notBlk bp (by decide)
      have hoA := hOA.notBlk bp (by decide)
      replace bn := bn.far (p := ⟨w2.heap.size, 6, none⟩) (by show w.heap.size + 1 ≠ w2.heap.size; omega) (.bool false)
      replace br := br.far (p := ⟨w2.heap.size, 6, none⟩) (by show w.heap.size + 2 ≠ w2.heap.size; omega) (.bool false)
      replace bp := bp.set_ 6 (.bool false)
      replace hOF := hOF.setFar (p := ⟨w2.heap.size, 6, none⟩) hoF (.bool false)
      replace hOA := hOA.setFar (p := ⟨w2.heap.size, 6, none⟩) hoA (.bool false)
      replace hB := hB.setCell (p := ⟨w2.heap.size, 6, none⟩) (by show w.heap.size ≤ w2.heap.size; omega) (.bool false)
      clear hoF hoA
      generalize V7.setCell ⟨w2.heap.size, 6, none⟩ (.bool false) = V8 at *
      have p2 := bp.cell' (i := 2) rfl
      have kf := bp.frozen
      have ys := bp.cell' (i := 7) rfl
      go_upto_region 20 with fail
      clear ys kf
      have hoF := hOF.notBlk bp (by decide)
      have hoA := hOA.notBlk bp (by decide)
      replace bn := bn.far (p := ⟨w2.heap.size, 7, none⟩) (by show w.heap.size + 1 ≠ w2.heap.size; omega) (.int .i64 (fn : Int))
      replace br := br.far (p := ⟨w2.heap.size, 7, none⟩) (by show w.heap.size + 2 ≠ w2.heap.size; omega) (.int .i64 (fn : Int))
      replace bp := bp.set_ 7 (.int .i64 (fn : Int))
      replace hOF := hOF.setFar (p := ⟨w2.heap.size, 7, none⟩) hoF (.int .i64 (fn : Int))
      replace hOA := hOA.setFar (p := ⟨w2.heap.size, 7, none⟩) hoA (.int .i64 (fn : Int))
      replace hB := hB.setCell (p := ⟨w2.heap.size, 7, none⟩) (by show w.heap.size ≤ w2.heap.size; omega) (.int .i64 (fn : Int))
      clear hoF hoA
      generalize V8.setCell ⟨w2.heap.size, 7, none⟩ (.int .i64 (fn : Int)) = V9 at *
      skip
      replace bn := bn.drew
      replace br := br.drew
      replace bp := bp.drew
      replace hOF := hOF.drew
      replace hOA := hOA.drew
      replace hB := hB.drew
      refine heldRegion (fun v => Blk v w2.heap.size 55 #[.int .i64 id, .string name, .slice F1 fn f1, .int .i64 most, .int .i64 burst, .int .i64 4, .bool false, .int .i64 (fn : Int), .slice none 0 0, .int .i64 timer, .int .i64 patience, .int .i64 tries, .int .i64 limit]) 6 (by kernel_rfl) (by kernel_rfl) bp (fun hSS => ?_)
      generalize V9.drew = V at *
      clear hSS
      refine walk_take 0 (v := ?vtc0) rfl (by kernel_rfl) (by kernel_rfl) (by kernel_rfl) (fun _ _ _ h => h) (bp) (Or.inl ⟨by rfl, ?ytc0⟩) ?rtc0
      case ytc0 => intro w hSw; obtain hw := _root_.id hSw; have e0 := hw.cell' (i := 0) rfl; have e1 := hw.cell' (i := 1) rfl; have e2 := hw.cell' (i := 2) rfl; have e3 := hw.cell' (i := 3) rfl; have e4 := hw.cell' (i := 4) rfl; have e5 := hw.cell' (i := 5) rfl; have e6 := hw.cell' (i := 6) rfl; have e7 := hw.cell' (i := 7) rfl; have e8 := hw.cell' (i := 8) rfl; have e9 := hw.cell' (i := 9) rfl; have e10 := hw.cell' (i := 10) rfl; have e11 := hw.cell' (i := 11) rfl; have e12 := hw.cell' (i := 12) rfl; have hSx := hSw; (try dsimp only at hSw); go_simp; try rfl
      case' rtc0 => try simp only [List.getElem_toArray, List.getElem_cons_succ, List.getElem_cons_zero, Act.put, List.setIfInBounds_toArray, List.set_cons_zero, List.set_cons_succ]
      refine walk_take 1 (v := ?vtc1) rfl (by kernel_rfl) (by kernel_rfl) (by kernel_rfl) (fun _ _ _ h => h) (bp) (Or.inl ⟨by rfl, ?ytc1⟩) ?rtc1
      case ytc1 => intro w hSw; obtain hw := _root_.id hSw; have e0 := hw.cell' (i := 0) rfl; have e1 := hw.cell' (i := 1) rfl; have e2 := hw.cell' (i := 2) rfl; have e3 := hw.cell' (i := 3) rfl; have e4 := hw.cell' (i := 4) rfl; have e5 := hw.cell' (i := 5) rfl; have e6 := hw.cell' (i := 6) rfl; have e7 := hw.cell' (i := 7) rfl; have e8 := hw.cell' (i := 8) rfl; have e9 := hw.cell' (i := 9) rfl; have e10 := hw.cell' (i := 10) rfl; have e11 := hw.cell' (i := 11) rfl; have e12 := hw.cell' (i := 12) rfl; have hSx := hSw; (try dsimp only at hSw); go_simp; try rfl
      case' rtc1 => try simp only [List.getElem_toArray, List.getElem_cons_succ, List.getElem_cons_zero, Act.put, List.setIfInBounds_toArray, List.set_cons_zero, List.set_cons_succ]
      refine walk_take 2 (v := ?vtc2) rfl (by kernel_rfl) (by kernel_rfl) (by kernel_rfl) (fun _ _ _ h => h) (bp) (Or.inl ⟨by rfl, ?ytc2⟩) ?rtc2
      case ytc2 => intro w hSw; obtain hw := _root_.id hSw; have e0 := hw.cell' (i := 0) rfl; have e1 := hw.cell' (i := 1) rfl; have e2 := hw.cell' (i := 2) rfl; have e3 := hw.cell' (i := 3) rfl; have e4 := hw.cell' (i := 4) rfl; have e5 := hw.cell' (i := 5) rfl; have e6 := hw.cell' (i := 6) rfl; have e7 := hw.cell' (i := 7) rfl; have e8 := hw.cell' (i := 8) rfl; have e9 := hw.cell' (i := 9) rfl; have e10 := hw.cell' (i := 10) rfl; have e11 := hw.cell' (i := 11) rfl; have e12 := hw.cell' (i := 12) rfl; have hSx := hSw; (try dsimp only at hSw); go_simp; try rfl
      case' rtc2 => try simp only [List.getElem_toArray, List.getElem_cons_succ, List.getElem_cons_zero, Act.put, List.setIfInBounds_toArray, List.set_cons_zero, List.set_cons_succ]
      refine walk_take 3 (v := ?vtc3) rfl (by kernel_rfl) (by kernel_rfl) (by kernel_rfl) (fun _ _ _ h => h) (bp) (Or.inl ⟨by rfl, ?ytc3⟩) ?rtc3
      case ytc3 => intro w hSw; obtain hw := _root_.id hSw; have e0 := hw.cell' (i := 0) rfl; have e1 := hw.cell' (i := 1) rfl; have e2 := hw.cell' (i := 2) rfl; have e3 := hw.cell' (i := 3) rfl; have e4 := hw.cell' (i := 4) rfl; have e5 := hw.cell' (i := 5) rfl; have e6 := hw.cell' (i := 6) rfl; have e7 := hw.cell' (i := 7) rfl; have e8 := hw.cell' (i := 8) rfl; have e9 := hw.cell' (i := 9) rfl; have e10 := hw.cell' (i := 10) rfl; have e11 := hw.cell' (i := 11) rfl; have e12 := hw.cell' (i := 12) rfl; have hSx := hSw; (try dsimp only at hSw); go_simp; try rfl
      case' rtc3 => try simp only [List.getElem_toArray, List.getElem_cons_succ, List.getElem_cons_zero, Act.put, List.setIfInBounds_toArray, List.set_cons_zero, List.set_cons_succ]
      refine walk_step2 4 5 rfl rfl (by kernel_rfl) (by kernel_rfl) (by kernel_rfl) (fun K hK => ?bac) (fun K hK => ?bbc)
      case bac =>
        go_simp
        have hO5 : Own (V.alloc (.cells #[.int .i64 6, .int .i64 id, .string ⟨#[]⟩, .int .i64 0, .int .i64 0, .int .i64 0, .slice none 0 0, .slice none 0 0, .int .i64 5, .int .i64 0] 27)) (w.heap.size + 3) 27 10 (some ⟨V.heap.size, 0, none⟩) 1 1 [.int .i64 6, .int .i64 id, .string ⟨#[]⟩, .int .i64 0, .int .i64 0, .int .i64 0, .slice none 0 0, .slice none 0 0, .int .i64 5, .int .i64 0] := Own.of_block (heap_alloc_new V _) (by have := bp.lt; omega) rfl (Nat.le_refl _) (by unfold maxLen; omega) (by simp) (fun i u h => by simpa using h)
        replace bp := bp.alloc (.cells #[.int .i64 6, .int .i64 id, .string ⟨#[]⟩, .int .i64 0, .int .i64 0, .int .i64 0, .slice none 0 0, .slice none 0 0, .int .i64 5, .int .i64 0] 27)
        replace br := br.alloc (.cells #[.int .i64 6, .int .i64 id, .string ⟨#[]⟩, .int .i64 0, .int .i64 0, .int .i64 0, .slice none 0 0, .slice none 0 0, .int .i64 5, .int .i64 0] 27)
        replace hOF := hOF.alloc (.cells #[.int .i64 6, .int .i64 id, .string ⟨#[]⟩, .int .i64 0, .int .i64 0, .int .i64 0, .slice none 0 0, .slice none 0 0, .int .i64 5, .int .i64 0] 27)
        replace hOA := hOA.alloc (.cells #[.int .i64 6, .int .i64 id, .string ⟨#[]⟩, .int .i64 0, .int .i64 0, .int .i64 0, .slice none 0 0, .slice none 0 0, .int .i64 5, .int .i64 0] 27)
        replace hB := hB.alloc hB.size (.cells #[.int .i64 6, .int .i64 id, .string ⟨#[]⟩, .int .i64 0, .int .i64 0, .int .i64 0, .slice none 0 0, .slice none 0 0, .int .i64 5, .int .i64 0] 27)
        refine hK _ _ bp ?_
        clear hK K
        generalize V.alloc (.cells #[.int .i64 6, .int .i64 id, .string ⟨#[]⟩, .int .i64 0, .int .i64 0, .int .i64 0, .slice none 0 0, .slice none 0 0, .int .i64 5, .int .i64 0] 27) = V2 at *
        try simp only [List.getElem_toArray, List.getElem_cons_succ, List.getElem_cons_zero, Act.put, List.setIfInBounds_toArray, List.set_cons_zero, List.set_cons_succ]
        refine walk_step 5 rfl (by kernel_rfl) (by kernel_rfl) (fun K hK => ?bcc)
        case bcc =>
          rw [if_pos (by kernel_rfl)]
          refine wp_store_row 55 (.tmp 4) (.tmp 61) rfl (w.heap.size + 2) #[.int .i64 id, .string name, .slice F1 fn f1, .int .i64 most, .int .i64 burst, .int .i64 4, .bool false, .int .i64 (fn : Int), .slice none 0 0, .int .i64 timer, .int .i64 patience, .int .i64 tries, .int .i64 limit] rfl rfl 55 _ br giversz rfl (by simp [Value.oneCell']) ?_
          replace bp := bp.farRow (g := w.heap.size + 2) (by omega) #[.int .i64 id, .string name, .slice F1 fn f1, .int .i64 most, .int .i64 burst, .int .i64 4, .bool false, .int .i64 (fn : Int), .slice none 0 0, .int .i64 timer, .int .i64 patience, .int .i64 tries, .int .i64 limit]
          replace br := br.row #[.int .i64 id, .string name, .slice F1 fn f1, .int .i64 most, .int .i64 burst, .int .i64 4, .bool false, .int .i64 (fn : Int), .slice none 0 0, .int .i64 timer, .int .i64 patience, .int .i64 tries, .int .i64 limit]
          replace hOF := hOF.rowFar (r := w.heap.size + 2) (by omega) #[.int .i64 id, .string name, .slice F1 fn f1, .int .i64 most, .int .i64 burst, .int .i64 4, .bool false, .int .i64 (fn : Int), .slice none 0 0, .int .i64 timer, .int .i64 patience, .int .i64 tries, .int .i64 limit]
          replace hOA := hOA.rowFar (r := w.heap.size + 2) (by omega) #[.int .i64 id, .string name, .slice F1 fn f1, .int .i64 most, .int .i64 burst, .int .i64 4, .bool false, .int .i64 (fn : Int), .slice none 0 0, .int .i64 timer, .int .i64 patience, .int .i64 tries, .int .i64 limit]
          replace hB := below_row hB (g := w.heap.size + 2) (by omega) #[.int .i64 id, .string name, .slice F1 fn f1, .int .i64 most, .int .i64 burst, .int .i64 4, .bool false, .int .i64 (fn : Int), .slice none 0 0, .int .i64 timer, .int .i64 patience, .int .i64 tries, .int .i64 limit]
          replace hO5 := hO5.rowFar (r := w.heap.size + 2) (by omega) #[.int .i64 id, .string name, .slice F1 fn f1, .int .i64 most, .int .i64 burst, .int .i64 4, .bool false, .int .i64 (fn : Int), .slice none 0 0, .int .i64 timer, .int .i64 patience, .int .i64 tries, .int .i64 limit]
          refine hK _ _ bp ?_
          clear hK K
          generalize V2.setRow (w.heap.size + 2) #[.int .i64 id, .string name, .slice F1 fn f1, .int .i64 most, .int .i64 burst, .int .i64 4, .bool false, .int .i64 (fn : Int), .slice none 0 0, .int .i64 timer, .int .i64 patience, .int .i64 tries, .int .i64 limit] = V3 at *
          try simp only [List.getElem_toArray, List.getElem_cons_succ, List.getElem_cons_zero, Act.put, List.setIfInBounds_toArray, List.set_cons_zero, List.set_cons_succ]
          refine walk_tail (by kernel_rfl) ?_
          simp only [List.drop_succ_cons, List.drop_zero]
          go_wp2_with fail
          refine bodyPost_ret (v := .tuple #[.agg #[.int .i64 id, .string name, .slice F1 fn f1, .int .i64 most, .int .i64 burst, .int .i64 4, .bool false, .int .i64 (fn : Int), .slice none 0 0, .int .i64 timer, .int .i64 patience, .int .i64 tries, .int .i64 limit], .slice (some ⟨V.heap.size, 0, none⟩) 1 1, .int .i64 0]) (results_cell_two rfl _ _ (w.heap.size + 2) 55 _ (0, 0) _ rfl rfl rfl br Try.underlying55 rfl giversz) rfl ?_
          exact GvRes.of HR.out ((reply_d H1.out H2.out HI.out (Int.not_lt.2 HK4.out) HS.out HK5.out).trans (by unfold endG; rw [if_neg HS3.out]; dsimp only; rw [if_neg HC.out, HFL.out])) (gv_fin (y := ⟨id, name, file, most, burst, 4, false, (fn : Int), [], timer, patience, tries, limit⟩) (base := w.heap.size + 3) hB (by omega) (gv_seen (y := ⟨id, name, file, most, burst, 4, false, (fn : Int), [], timer, patience, tries, limit⟩) HFL.out rfl hOF (Own.none_ _ _ _ _) hO5))
      case bbc =>
        rw [if_pos (by kernel_rfl)]
        refine wp_store_row 55 (.tmp 4) (.tmp 61) rfl (w.heap.size + 2) #[.int .i64 id, .string name, .slice F1 fn f1, .int .i64 most, .int .i64 burst, .int .i64 4, .bool false, .int .i64 (fn : Int), .slice none 0 0, .int .i64 timer, .int .i64 patience, .int .i64 tries, .int .i64 limit] rfl rfl 55 _ br giversz rfl (by simp [Value.oneCell']) ?_
        replace bp := bp.farRow (g := w.heap.size + 2) (by omega) #[.int .i64 id, .string name, .slice F1 fn f1, .int .i64 most, .int .i64 burst, .int .i64 4, .bool false, .int .i64 (fn : Int), .slice none 0 0, .int .i64 timer, .int .i64 patience, .int .i64 tries, .int .i64 limit]
        replace br := br.row #[.int .i64 id, .string name, .slice F1 fn f1, .int .i64 most, .int .i64 burst, .int .i64 4, .bool false, .int .i64 (fn : Int), .slice none 0 0, .int .i64 timer, .int .i64 patience, .int .i64 tries, .int .i64 limit]
        replace hOF := hOF.rowFar (r := w.heap.size + 2) (by omega) #[.int .i64 id, .string name, .slice F1 fn f1, .int .i64 most, .int .i64 burst, .int .i64 4, .bool false, .int .i64 (fn : Int), .slice none 0 0, .int .i64 timer, .int .i64 patience, .int .i64 tries, .int .i64 limit]
        replace hOA := hOA.rowFar (r := w.heap.size + 2) (by omega) #[.int .i64 id, .string name, .slice F1 fn f1, .int .i64 most, .int .i64 burst, .int .i64 4, .bool false, .int .i64 (fn : Int), .slice none 0 0, .int .i64 timer, .int .i64 patience, .int .i64 tries, .int .i64 limit]
        replace hB := below_row hB (g := w.heap.size + 2) (by omega) #[.int .i64 id, .string name, .slice F1 fn f1, .int .i64 most, .int .i64 burst, .int .i64 4, .bool false, .int .i64 (fn : Int), .slice none 0 0, .int .i64 timer, .int .i64 patience, .int .i64 tries, .int .i64 limit]
        have hsz : (V.setRow (w.heap.size + 2) #[.int .i64 id, .string name, .slice F1 fn f1, .int .i64 most, .int .i64 burst, .int .i64 4, .bool false, .int .i64 (fn : Int), .slice none 0 0, .int .i64 timer, .int .i64 patience, .int .i64 tries, .int .i64 limit]).heap.size = V.heap.size := setRow_size _ _ _
        refine hK _ _ bp ?_
        clear hK K
        generalize V.setRow (w.heap.size + 2) #[.int .i64 id, .string name, .slice F1 fn f1, .int .i64 most, .int .i64 burst, .int .i64 4, .bool false, .int .i64 (fn : Int), .slice none 0 0, .int .i64 timer, .int .i64 patience, .int .i64 tries, .int .i64 limit] = V2 at *
        try simp only [List.getElem_toArray, List.getElem_cons_succ, List.getElem_cons_zero, Act.put, List.setIfInBounds_toArray, List.set_cons_zero, List.set_cons_succ]
        refine walk_step 4 rfl (by kernel_rfl) (by kernel_rfl) (fun K hK => ?bdc)
        case bdc =>
          go_simp
          have hO5 : Own (V2.alloc (.cells #[.int .i64 6, .int .i64 id, .string ⟨#[]⟩, .int .i64 0, .int .i64 0, .int .i64 0, .slice none 0 0, .slice none 0 0, .int .i64 5, .int .i64 0] 27)) (w.heap.size + 3) 27 10 (some ⟨V2.heap.size, 0, none⟩) 1 1 [.int .i64 6, .int .i64 id, .string ⟨#[]⟩, .int .i64 0, .int .i64 0, .int .i64 0, .slice none 0 0, .slice none 0 0, .int .i64 5, .int .i64 0] := Own.of_block (heap_alloc_new V2 _) (by have := bp.lt; omega) rfl (Nat.le_refl _) (by unfold maxLen; omega) (by simp) (fun i u h => by simpa using h)
          replace bp := bp.alloc (.cells #[.int .i64 6, .int .i64 id, .string ⟨#[]⟩, .int .i64 0, .int .i64 0, .int .i64 0, .slice none 0 0, .slice none 0 0, .int .i64 5, .int .i64 0] 27)
          replace br := br.alloc (.cells #[.int .i64 6, .int .i64 id, .string ⟨#[]⟩, .int .i64 0, .int .i64 0, .int .i64 0, .slice none 0 0, .slice none 0 0, .int .i64 5, .int .i64 0] 27)
          replace hOF := hOF.alloc (.cells #[.int .i64 6, .int .i64 id, .string ⟨#[]⟩, .int .i64 0, .int .i64 0, .int .i64 0, .slice none 0 0, .slice none 0 0, .int .i64 5, .int .i64 0] 27)
          replace hOA := hOA.alloc (.cells #[.int .i64 6, .int .i64 id, .string ⟨#[]⟩, .int .i64 0, .int .i64 0, .int .i64 0, .slice none 0 0, .slice none 0 0, .int .i64 5, .int .i64 0] 27)
          replace hB := hB.alloc hB.size (.cells #[.int .i64 6, .int .i64 id, .string ⟨#[]⟩, .int .i64 0, .int .i64 0, .int .i64 0, .slice none 0 0, .slice none 0 0, .int .i64 5, .int .i64 0] 27)
          refine hK _ _ bp ?_
          clear hK K
          generalize V2.alloc (.cells #[.int .i64 6, .int .i64 id, .string ⟨#[]⟩, .int .i64 0, .int .i64 0, .int .i64 0, .slice none 0 0, .slice none 0 0, .int .i64 5, .int .i64 0] 27) = V3 at *
          try simp only [List.getElem_toArray, List.getElem_cons_succ, List.getElem_cons_zero, Act.put, List.setIfInBounds_toArray, List.set_cons_zero, List.set_cons_succ]
          rw [hsz] at hO5
          refine walk_tail (by kernel_rfl) ?_
          simp only [List.drop_succ_cons, List.drop_zero]
          go_wp2_with fail
          refine bodyPost_ret (v := .tuple #[.agg #[.int .i64 id, .string name, .slice F1 fn f1, .int .i64 most, .int .i64 burst, .int .i64 4, .bool false, .int .i64 (fn : Int), .slice none 0 0, .int .i64 timer, .int .i64 patience, .int .i64 tries, .int .i64 limit], .slice (some ⟨V.heap.size, 0, none⟩) 1 1, .int .i64 0]) (results_cell_two rfl _ _ (w.heap.size + 2) 55 _ (0, 0) _ rfl rfl rfl br Try.underlying55 rfl giversz) rfl ?_
          exact GvRes.of HR.out ((reply_d H1.out H2.out HI.out (Int.not_lt.2 HK4.out) HS.out HK5.out).trans (by unfold endG; rw [if_neg HS3.out]; dsimp only; rw [if_neg HC.out, HFL.out])) (gv_fin (y := ⟨id, name, file, most, burst, 4, false, (fn : Int), [], timer, patience, tries, limit⟩) (base := w.heap.size + 3) hB (by omega) (gv_seen (y := ⟨id, name, file, most, burst, 4, false, (fn : Int), [], timer, patience, tries, limit⟩) HFL.out rfl hOF (Own.none_ _ _ _ _) hO5))
  have e5 := beq_f hk5
  have HK5 := Lib.hid hk5
  clear hk5 hb5 b5
  have key2 : ((nk != 4) = false ∧ (nk == 6) = false ∧ ¬ nof = 3) ∨ ((nk != 4) = true ∧ (nk != 5) = true ∧ (nk != 6) = false ∧ (nk == 6) = true) := by
    rcases key with ⟨h, h1⟩ | ⟨h, h1, h2, h3⟩ | ⟨h, _⟩
    · exact .inl ⟨h1, beq_f (by omega), by have hb := note_of H2.out (by dsimp only; omega); dsimp only at hb; omega⟩
    · exact .inr ⟨h1, h2, h3, beq_t h⟩
    · exact absurd h HK5.out
  clear key
  by_cases hs3 : stage = 3
  ·
    have j3 := beq_t hs3
    have HS3 := Lib.hid hs3
    clear hs3
    rcases key2 with ⟨k4, k6, -⟩ | ⟨k4, k5, k6, k6t⟩
    all_goals
      go_wp2_with (first
        | (refine wpList_load_row rfl 55 (.tmp 7) rfl w2.heap.size rfl 55 #[.int .i64 id, .string name, .slice F1 fn f1, .int .i64 most, .int .i64 burst, .int .i64 stage, .bool first, .int .i64 at_, .slice A1 an a1, .int .i64 timer, .int .i64 patience, .int .i64 tries, .int .i64 limit] (0, 0) _ bp Try.underlying55 rfl giversz ?_)
        | (refine wpList_store_row rfl 55 (.tmp 4) (.tmp 69) rfl (w.heap.size + 2) #[.int .i64 id, .string name, .slice F1 fn f1, .int .i64 most, .int .i64 burst, .int .i64 stage, .bool first, .int .i64 at_, .slice A1 an a1, .int .i64 timer, .int .i64 patience, .int .i64 tries, .int .i64 limit] rfl rfl 55 _ br giversz rfl (by simp [Value.oneCell']) ?_))
      have br2 := br.row #[.int .i64 id, .string name, .slice F1 fn f1, .int .i64 most, .int .i64 burst, .int .i64 stage, .bool first, .int .i64 at_, .slice A1 an a1, .int .i64 timer, .int .i64 patience, .int .i64 tries, .int .i64 limit]
      refine bodyPost_ret (v := .tuple #[.agg #[.int .i64 id, .string name, .slice F1 fn f1, .int .i64 most, .int .i64 burst, .int .i64 stage, .bool first, .int .i64 at_, .slice A1 an a1, .int .i64 timer, .int .i64 patience, .int .i64 tries, .int .i64 limit], .slice none 0 0, .int .i64 0]) (results_cell_two rfl _ _ (w.heap.size + 2) 55 _ (0, 0) _ rfl rfl rfl br2 Try.underlying55 rfl giversz) rfl ?_
      exact GvRes.of HR.out (reply_o H1.out H2.out HI.out (Int.not_lt.2 HK4.out) HS.out HK5.out HS3.out) (gv_out (base := w.heap.size + 3) hB (by omega) (by omega) (GvMem.none HFL.out HAL.out hOF hOA))
  have j3 := beq_f hs3
  have HS3 := Lib.hid hs3
  clear hs3
  have hal : an ≤ 1000 := by have h := (gv_parts H1.out).2.2.1; dsimp only at h; rw [HAL.out] at h; exact h
  have HPP := Lib.hid (reply_h H1.out H2.out HI.out (Int.not_lt.2 HK4.out) HS.out HK5.out HS3.out)
  have key4 : (((nk != 4) = false ∧ (nk == 6) = false ∧ Hid (¬ (nof = 3 ∧ stage = 1))) ∨ ((nk != 4) = true ∧ (nk != 5) = true ∧ (nk != 6) = false ∧ (nk == 6) = true ∧ (nof == 3) = false ∧ Hid (¬ (nof = 3 ∧ stage = 1))) ∨ ((nk != 4) = true ∧ (nk != 5) = true ∧ (nk != 6) = false ∧ (nk == 6) = true ∧ (nof == 3) = true ∧ (stage == 1) = false ∧ Hid (¬ (nof = 3 ∧ stage = 1)))) ∨ ((nk != 4) = true ∧ (nk != 5) = true ∧ (nk != 6) = false ∧ (nk == 6) = true ∧ (nof == 3) = true ∧ (stage == 1) = true ∧ Hid (nof = 3 ∧ stage = 1)) := by
    rcases key2 with ⟨h, h1, h2⟩ | ⟨h, h1, h2, h3⟩
    · exact .inl (.inl ⟨h, h1, Lib.hid (fun g => h2 g.1)⟩)
    · by_cases h4 : nof = 3
      · by_cases h5 : stage = 1
        · exact .inr ⟨h, h1, h2, h3, beq_t h4, beq_t h5, Lib.hid ⟨h4, h5⟩⟩
        · exact .inl (.inr (.inr ⟨h, h1, h2, h3, beq_t h4, beq_f h5, Lib.hid (fun g => h5 g.2)⟩))
      · exact .inl (.inr (.inl ⟨h, h1, h2, h3, beq_f h4, Lib.hid (fun g => h4 g.1)⟩))
  clear key2 HS HK5 HS3 H2 HI HK4
  rcases key4 with key3 | ⟨k4, k5, k6, k6t, k3, l1, HST⟩
  ·
    rcases key3 with ⟨k4, k6t, HST⟩ | ⟨k4, k5, k6, k6t, k3, HST⟩ | ⟨k4, k5, k6, k6t, k3, l1, HST⟩
    all_goals
      have kf := bp.frozen
      have ys := bp.cell' (i := 9) rfl
      go_upto_region 24 with fail
      clear ys kf
      have hoF := hOF.notBlk bp (by decide)
      have hoA := hOA.notBlk bp (by decide)
      replace bn := bn.far (p := ⟨w2.heap.size, 9, none⟩) (by show w.heap.size + 1 ≠ w2.heap.size; omega) (.int .i64 0)
      replace br := br.far (p := ⟨w2.heap.size, 9, none⟩) (by show w.heap.size + 2 ≠ w2.heap.size; omega) (.int .i64 0)
      replace bp := bp.set_ 9 (.int .i64 0)
      replace hOF := hOF.setFar (p := ⟨w2.heap.size, 9, none⟩) hoF (.int .i64 0)
      replace hOA := hOA.setFar (p := ⟨w2.heap.size, 9, none⟩) hoA (.int .i64 0)
      replace hB := hB.setCell (p := ⟨w2.heap.size, 9, none⟩) (by show w.heap.size ≤ w2.heap.size; omega) (.int .i64 0)
      clear hoF hoA
      generalize w3.setCell ⟨w2.heap.size, 9, none⟩ (.int .i64 0) = V5 at *
      clear p5 p0 n0 n1
      have kf := bp.frozen
      have ys := bp.cell' (i := 11) rfl
      go_upto_region 25 with fail
      clear ys kf
      have hoF := hOF.notBlk bp (by decide)
      have hoA := hOA.notBlk bp (by decide)
      replace bn := bn.far (p := ⟨w2.heap.size, 11, none⟩) (by show w.heap.size + 1 ≠ w2.heap.size; omega) (.int .i64 0)
      replace br := br.far (p := ⟨w2.heap.size, 11, none⟩) (by show w.heap.size + 2 ≠ w2.heap.size; omega) (.int .i64 0)
      replace bp := bp.set_ 11 (.int .i64 0)
      replace hOF := hOF.setFar (p := ⟨w2.heap.size, 11, none⟩) hoF (.int .i64 0)
      replace hOA := hOA.setFar (p := ⟨w2.heap.size, 11, none⟩) hoA (.int .i64 0)
      replace hB := hB.setCell (p := ⟨w2.heap.size, 11, none⟩) (by show w.heap.size ≤ w2.heap.size; omega) (.int .i64 0)
      clear hoF hoA
      generalize V5.setCell ⟨w2.heap.size, 11, none⟩ (.int .i64 0) = V6 at *
      have n0 := bn.cell' (i := 0) rfl
      have n8 := bn.cell' (i := 8) rfl
      have p5 := bp.cell' (i := 5) rfl
      go_upto_region 27 with fail
      clear n0 n8 p5
      go_wp2_with fail
      go_loopw [8] (fun iv wr => ∃ (i : Nat) (A2 : Option Addr) (a2 m : Nat), i ≤ gn ∧ iv = .int .i64 (i : Int) ∧ m ≤ 1000 ∧ Hid ((askAll (fn : Int) again (ng.take i)).length = m) ∧ Own wr (w.heap.size + 3) 66 2 A2 m a2 (gps (askAll (fn : Int) again (ng.take i))) ∧ Blk wr w2.heap.size 55 #[.int .i64 id, .string name, .slice F1 fn f1, .int .i64 most, .int .i64 burst, .int .i64 stage, .bool first, .int .i64 at_, .slice A2 m a2, .int .i64 0, .int .i64 patience, .int .i64 0, .int .i64 limit] ∧ Blk wr (w.heap.size + 1) 27 #[.int .i64 nk, .int .i64 nid, .string nn, .int .i64 ns_, .int .i64 nsum, .int .i64 nat_, .slice D dn dc, .slice G gn gc, .int .i64 nof, .int .i64 ncode] ∧ Blk wr (w.heap.size + 2) 55 #[.int .i64 0, .string ⟨#[]⟩, .slice none 0 0, .int .i64 0, .int .i64 0, .int .i64 0, .bool false, .int .i64 0, .slice none 0 0, .int .i64 0, .int .i64 0, .int .i64 0, .int .i64 0] ∧ Own wr (w.heap.size + 3) 5 1 F1 fn f1 (bvs file) ∧ Below w.heap.size w wr) (fun iv _ => gn - (intOf iv).toNat)
      case atStart => exact ⟨0, A1, a1, an, Nat.zero_le _, rfl, hal, Lib.hid HAL.out, hOA, bp, bn, br, hOF, hB⟩
      case round =>
        clear hOA bp bn br hOF hB hal
        obtain ⟨i, A2, a2, m, hi, rfl, hm, HM, hOA, bp, bn, br, hOF, hB⟩ := hrel
        have n7 := bn.cell' (i := 7) rfl
        have p8 := bp.cell' (i := 8) rfl
        have p2c := bp.cell' (i := 2) rfl
        by_cases h5 : i < gn ∧ m < 1000
        ·
          obtain ⟨h5, h6⟩ := h5
          have h5i : (i : Int) < (gn : Int) := by omega
          have h6i : (m : Int) < 1000 := by omega
          have hip : (0 : Int) ≤ (i : Int) := by omega
          obtain ⟨x, hx⟩ : ∃ x, ng[i]? = some x := ⟨_, List.getElem?_eq_getElem (by rw [HGL.out]; exact h5)⟩
          have HT : Hid (ng.take (i + 1) = ng.take i ++ [x]) := Lib.hid (by rw [List.take_add_one, hx]; rfl)
          have k1 : Hid ((gps ng)[i * 2 + 1]? = some (.int .i64 x.2)) := Lib.hid ((gps_get hx (j := 1) (by omega)).trans rfl)
          obtain ⟨g, oo, rfl, f0, f1⟩ := rdgap_cells (HG.out.below hB) hx
          clear hx
          obtain ⟨x1, x2⟩ := x
          dsimp only at f0 f1 HT k1
          have lz := bp.lt
          have lz1 := bn.lt
          by_cases c : (fn : Int) < x2
          ·
            have hqq : Hid (min x2 (fn : Int) = (fn : Int)) := Lib.hid (by omega)
            go_upto_region 33 with fail
            clear f0 f1 n7 p8 p2c
            have bq := Blk.new wr 66 #[.int .i64 x1, .int .i64 (fn : Int)]
            replace bp := bp.alloc (.cells #[.int .i64 x1, .int .i64 (fn : Int)] 66)
            replace bn := bn.alloc (.cells #[.int .i64 x1, .int .i64 (fn : Int)] 66)
            replace br := br.alloc (.cells #[.int .i64 x1, .int .i64 (fn : Int)] 66)
            replace hOF := hOF.alloc (.cells #[.int .i64 x1, .int .i64 (fn : Int)] 66)
            replace hOA := hOA.alloc (.cells #[.int .i64 x1, .int .i64 (fn : Int)] 66)
            clear lz lz1
            have hwz := bp.lt
            replace hB := hB.alloc (by have h := bp.lt; simp at h; omega) (.cells #[.int .i64 x1, .int .i64 (fn : Int)] 66)
            generalize wr.alloc (.cells #[.int .i64 x1, .int .i64 (fn : Int)] 66) = V3 at *
            have q0 := bq.cell' (i := 0) rfl
            have q1 := bq.cell' (i := 1) rfl
            have n7 := bn.cell' (i := 7) rfl
            have f1 : V3.cell? ⟨g, oo + i * 2 + 1, none⟩ = some (.int .i64 x2) := (HG.out.below hB).cell k1.out
            by_cases app : x2 = 0 ∨ x1 < (fn : Int)
            ·
              have HY : Hid (askAll (fn : Int) again (ng.take (i + 1)) = askAll (fn : Int) again (ng.take i) ++ [(x1, (fn : Int))]) := Lib.hid (by rw [HT.out, askAll_snoc, askG_yes (by rw [HM.out]; exact h6) hqq.out app])
              have ways : (x2 == 0) = true ∨ ((x2 == 0) = false ∧ x1 < (fn : Int)) := by
                by_cases z : x2 = 0
                · exact .inl (beq_t z)
                · exact .inr ⟨beq_f z, by omega⟩
              clear app c
              have p8 := bp.cell' (i := 8) rfl
              have hR5 := Rd_lit V3 [.int .i64 x1, .int .i64 (fn : Int)] 66
              have hOn := hOA.alloc (.cells #[.int .i64 x1, .int .i64 (fn : Int)] 66)
              have bpn := bp.alloc (.cells #[.int .i64 x1, .int .i64 (fn : Int)] 66)
              have q4 : m + 1 ≤ maxLen := by unfold maxLen; omega
              have q5 : (m + 1) * 16 ≤ 140737488355328 := by omega
              have hbs : w.heap.size + 3 ≤ (V3.alloc (.cells #[.int .i64 x1, .int .i64 (fn : Int)] 66)).heap.size := by have := bpn.lt; omega
              have hone : Hid (∀ u ∈ [Value.int .i64 x1, .int .i64 (fn : Int)], u.oneCell' = true) := Lib.hid (gps_one [(x1, (fn : Int))])
              have hnp := hOn.notBlk bpn (by decide)
              rcases ways with iz | ⟨iz, lt⟩
              all_goals
                go_upto_region 29 with (at_builtin; refine wpList_append_Own (V3.alloc (.cells #[.int .i64 x1, .int .i64 (fn : Int)] 66)) rfl (.tmp 129) (.tmp 131) 24 rfl (w.heap.size + 3) 66 j0 _ 2 16 Try.underlying24 hj0 hy0 hy1 hy2 rfl A2 m a2 (gps (askAll (fn : Int) again (ng.take i))) rfl hOn (some ⟨V3.heap.size, 0, none⟩) 1 1 [.int .i64 x1, .int .i64 (fn : Int)] rfl rfl hR5 hone.out q4 q5 hbs ?_; intro A6 c6 w6 hO6 hg6 hor6; have bp6 := bpn.grown hg6 (fun e => hnp e.symm); have kf6 := bp6.frozen; have y6 := bp6.cell' (i := 8) rfl)
                have hTn : ∀ (q : Nat), blk A2 = some q → w.heap.size + 3 ≤ q := fun q hq => (hOA.lt q hq).1
                replace bn := (bn.alloc (.cells #[.int .i64 x1, .int .i64 (fn : Int)] 66)).grown hg6 (fun e => by have := hTn _ e.symm; omega)
                replace br := (br.alloc (.cells #[.int .i64 x1, .int .i64 (fn : Int)] 66)).grown hg6 (fun e => by have := hTn _ e.symm; omega)
                replace hOF := (hOF.alloc (.cells #[.int .i64 x1, .int .i64 (fn : Int)] 66)).grown hg6 (fun q hq hq2 => (hOn.apart (hOF.alloc (.cells #[.int .i64 x1, .int .i64 (fn : Int)] 66)) (by decide)) q hq hq2)
                replace hB := (hB.alloc hB.size (.cells #[.int .i64 x1, .int .i64 (fn : Int)] 66)).grown hg6 (by omega) (fun q hq => by have := hTn q hq; omega)
                have hO7 := hO6.setFar (p := ⟨w2.heap.size, 8, none⟩) (hO6.notBlk bp6 (by decide)) (.slice A6 (m + 1) c6)
                replace hOF := hOF.setFar (p := ⟨w2.heap.size, 8, none⟩) (hOF.notBlk bp6 (by decide)) (.slice A6 (m + 1) c6)
                have bp7 := bp6.set_ 8 (.slice A6 (m + 1) c6)
                replace bn := bn.far (p := ⟨w2.heap.size, 8, none⟩) (by show w.heap.size + 1 ≠ w2.heap.size; omega) (.slice A6 (m + 1) c6)
                replace br := br.far (p := ⟨w2.heap.size, 8, none⟩) (by show w.heap.size + 2 ≠ w2.heap.size; omega) (.slice A6 (m + 1) c6)
                replace hB := hB.setCell (p := ⟨w2.heap.size, 8, none⟩) (by show w.heap.size ≤ w2.heap.size; omega) (.slice A6 (m + 1) c6)
                clear hO6 bp6 kf6 y6 hg6 hor6 bq q0 q1 n7 f1 p8 hR5 hOn bpn hnp hOA bp hTn hwz
                generalize w6.setCell ⟨w2.heap.size, 8, none⟩ (.slice A6 (m + 1) c6) = V7 at *
                go_wp2_with fail
                go_roundw
                case rel =>
                  refine ⟨i + 1, A6, c6, m + 1, by omega, by go_num, by omega, Lib.hid (by rw [HY.out, List.length_append, HM.out]; rfl), ?_, bp7, bn, br, hOF, hB⟩
                  rw [HY.out]
                  have e : gps (askAll (fn : Int) again (ng.take i) ++ [(x1, (fn : Int))]) = gps (askAll (fn : Int) again (ng.take i)) ++ [.int .i64 x1, .int .i64 (fn : Int)] := by simp [gps, gpc]
                  rw [e]
                  exact hO7
                case measure => simp [intOf]; omega
            ·
              have HY : Hid (askAll (fn : Int) again (ng.take (i + 1)) = askAll (fn : Int) again (ng.take i)) := Lib.hid (by rw [HT.out, askAll_snoc, askG_no hqq.out app])
              have iz := beq_f (show x2 ≠ 0 from fun h => app (.inl h))
              have lt : ¬ x1 < (fn : Int) := fun h => app (.inr h)
              clear app c bq hwz
              go_wp2_with fail
              go_roundw
              case rel => exact ⟨i + 1, A2, a2, m, by omega, by go_num, by omega, Lib.hid (by rw [HY.out]; exact HM.out), by rw [HY.out]; exact hOA, bp, bn, br, hOF, hB⟩
              case measure => simp [intOf]; omega
          ·
            have hqq : Hid (min x2 (fn : Int) = x2) := Lib.hid (by omega)
            go_upto_region 33 with fail
            clear f0 f1 n7 p8 p2c
            have bq := Blk.new wr 66 #[.int .i64 x1, .int .i64 x2]
            replace bp := bp.alloc (.cells #[.int .i64 x1, .int .i64 x2] 66)
            replace bn := bn.alloc (.cells #[.int .i64 x1, .int .i64 x2] 66)
            replace br := br.alloc (.cells #[.int .i64 x1, .int .i64 x2] 66)
            replace hOF := hOF.alloc (.cells #[.int .i64 x1, .int .i64 x2] 66)
            replace hOA := hOA.alloc (.cells #[.int .i64 x1, .int .i64 x2] 66)
            clear lz lz1
            have hwz := bp.lt
            replace hB := hB.alloc (by have h := bp.lt; simp at h; omega) (.cells #[.int .i64 x1, .int .i64 x2] 66)
            generalize wr.alloc (.cells #[.int .i64 x1, .int .i64 x2] 66) = V3 at *
            have q0 := bq.cell' (i := 0) rfl
            have q1 := bq.cell' (i := 1) rfl
            have n7 := bn.cell' (i := 7) rfl
            have f1 : V3.cell? ⟨g, oo + i * 2 + 1, none⟩ = some (.int .i64 x2) := (HG.out.below hB).cell k1.out
            by_cases app : x2 = 0 ∨ x1 < x2
            ·
              have HY : Hid (askAll (fn : Int) again (ng.take (i + 1)) = askAll (fn : Int) again (ng.take i) ++ [(x1, x2)]) := Lib.hid (by rw [HT.out, askAll_snoc, askG_yes (by rw [HM.out]; exact h6) hqq.out app])
              have ways : (x2 == 0) = true ∨ ((x2 == 0) = false ∧ x1 < x2) := by
                by_cases z : x2 = 0
                · exact .inl (beq_t z)
                · exact .inr ⟨beq_f z, by omega⟩
              clear app c
              have p8 := bp.cell' (i := 8) rfl
              have hR5 := Rd_lit V3 [.int .i64 x1, .int .i64 x2] 66
              have hOn := hOA.alloc (.cells #[.int .i64 x1, .int .i64 x2] 66)
              have bpn := bp.alloc (.cells #[.int .i64 x1, .int .i64 x2] 66)
              have q4 : m + 1 ≤ maxLen := by unfold maxLen; omega
              have q5 : (m + 1) * 16 ≤ 140737488355328 := by omega
              have hbs : w.heap.size + 3 ≤ (V3.alloc (.cells #[.int .i64 x1, .int .i64 x2] 66)).heap.size := by have := bpn.lt; omega
              have hone : Hid (∀ u ∈ [Value.int .i64 x1, .int .i64 x2], u.oneCell' = true) := Lib.hid (gps_one [(x1, x2)])
              have hnp := hOn.notBlk bpn (by decide)
              rcases ways with iz | ⟨iz, lt⟩
              all_goals
                go_upto_region 29 with (at_builtin; refine wpList_append_Own (V3.alloc (.cells #[.int .i64 x1, .int .i64 x2] 66)) rfl (.tmp 129) (.tmp 131) 24 rfl (w.heap.size + 3) 66 j0 _ 2 16 Try.underlying24 hj0 hy0 hy1 hy2 rfl A2 m a2 (gps (askAll (fn : Int) again (ng.take i))) rfl hOn (some ⟨V3.heap.size, 0, none⟩) 1 1 [.int .i64 x1, .int .i64 x2] rfl rfl hR5 hone.out q4 q5 hbs ?_; intro A6 c6 w6 hO6 hg6 hor6; have bp6 := bpn.grown hg6 (fun e => hnp e.symm); have kf6 := bp6.frozen; have y6 := bp6.cell' (i := 8) rfl)
                have hTn : ∀ (q : Nat), blk A2 = some q → w.heap.size + 3 ≤ q := fun q hq => (hOA.lt q hq).1
                replace bn := (bn.alloc (.cells #[.int .i64 x1, .int .i64 x2] 66)).grown hg6 (fun e => by have := hTn _ e.symm; omega)
                replace br := (br.alloc (.cells #[.int .i64 x1, .int .i64 x2] 66)).grown hg6 (fun e => by have := hTn _ e.symm; omega)
                replace hOF := (hOF.alloc (.cells #[.int .i64 x1, .int .i64 x2] 66)).grown hg6 (fun q hq hq2 => (hOn.apart (hOF.alloc (.cells #[.int .i64 x1, .int .i64 x2] 66)) (by decide)) q hq hq2)
                replace hB := (hB.alloc hB.size (.cells #[.int .i64 x1, .int .i64 x2] 66)).grown hg6 (by omega) (fun q hq => by have := hTn q hq; omega)
                have hO7 := hO6.setFar (p := ⟨w2.heap.size, 8, none⟩) (hO6.notBlk bp6 (by decide)) (.slice A6 (m + 1) c6)
                replace hOF := hOF.setFar (p := ⟨w2.heap.size, 8, none⟩) (hOF.notBlk bp6 (by decide)) (.slice A6 (m + 1) c6)
                have bp7 := bp6.set_ 8 (.slice A6 (m + 1) c6)
                replace bn := bn.far (p := ⟨w2.heap.size, 8, none⟩) (by show w.heap.size + 1 ≠ w2.heap.size; omega) (.slice A6 (m + 1) c6)
                replace br := br.far (p := ⟨w2.heap.size, 8, none⟩) (by show w.heap.size + 2 ≠ w2.heap.size; omega) (.slice A6 (m + 1) c6)
                replace hB := hB.setCell (p := ⟨w2.heap.size, 8, none⟩) (by show w.heap.size ≤ w2.heap.size; omega) (.slice A6 (m + 1) c6)
                clear hO6 bp6 kf6 y6 hg6 hor6 bq q0 q1 n7 f1 p8 hR5 hOn bpn hnp hOA bp hTn hwz
                generalize w6.setCell ⟨w2.heap.size, 8, none⟩ (.slice A6 (m + 1) c6) = V7 at *
                go_wp2_with fail
                go_roundw
                case rel =>
                  refine ⟨i + 1, A6, c6, m + 1, by omega, by go_num, by omega, Lib.hid (by rw [HY.out, List.length_append, HM.out]; rfl), ?_, bp7, bn, br, hOF, hB⟩
                  rw [HY.out]
                  have e : gps (askAll (fn : Int) again (ng.take i) ++ [(x1, x2)]) = gps (askAll (fn : Int) again (ng.take i)) ++ [.int .i64 x1, .int .i64 x2] := by simp [gps, gpc]
                  rw [e]
                  exact hO7
                case measure => simp [intOf]; omega
            ·
              have HY : Hid (askAll (fn : Int) again (ng.take (i + 1)) = askAll (fn : Int) again (ng.take i)) := Lib.hid (by rw [HT.out, askAll_snoc, askG_no hqq.out app])
              have iz := beq_f (show x2 ≠ 0 from fun h => app (.inl h))
              have lt : ¬ x1 < x2 := fun h => app (.inr h)
              clear app c bq hwz
              go_wp2_with fail
              go_roundw
              case rel => exact ⟨i + 1, A2, a2, m, by omega, by go_num, by omega, Lib.hid (by rw [HY.out]; exact HM.out), by rw [HY.out]; exact hOA, bp, bn, br, hOF, hB⟩
              case measure => simp [intOf]; omega
        ·
          have HE : Hid (askAll (fn : Int) again ng = askAll (fn : Int) again (ng.take i)) := Lib.hid (by
            by_cases h7 : i < gn
            · have h8 : 1000 ≤ (askAll (fn : Int) again (ng.take i)).length := by rw [HM.out]; omega
              have h9 := askAll_append (fn : Int) again (ng.take i) (ng.drop i)
              rw [List.take_append_drop, askAll_full h8] at h9
              exact h9
            · rw [List.take_of_length_le (by rw [HGL.out]; omega)])
          have ways : ¬ (i : Int) < (gn : Int) ∨ ((i : Int) < (gn : Int) ∧ ¬ (m : Int) < 1000) := by omega
          clear h5
          rcases ways with g1 | ⟨g1, g2⟩
          all_goals
            go_wp2_with (first
              | (refine wpList_load_row rfl 55 (.tmp 7) rfl w2.heap.size rfl 55 #[.int .i64 id, .string name, .slice F1 fn f1, .int .i64 most, .int .i64 burst, .int .i64 stage, .bool first, .int .i64 at_, .slice A2 m a2, .int .i64 0, .int .i64 patience, .int .i64 0, .int .i64 limit] (0, 0) _ bp Try.underlying55 rfl giversz ?_)
              | (refine wpList_store_row rfl 55 (.tmp 4) (.tmp 134) rfl (w.heap.size + 2) #[.int .i64 id, .string name, .slice F1 fn f1, .int .i64 most, .int .i64 burst, .int .i64 stage, .bool first, .int .i64 at_, .slice A2 m a2, .int .i64 0, .int .i64 patience, .int .i64 0, .int .i64 limit] rfl rfl 55 _ br giversz rfl (by simp [Value.oneCell']) ?_))
            have br2 := br.row #[.int .i64 id, .string name, .slice F1 fn f1, .int .i64 most, .int .i64 burst, .int .i64 stage, .bool first, .int .i64 at_, .slice A2 m a2, .int .i64 0, .int .i64 patience, .int .i64 0, .int .i64 limit]
            refine bodyPost_ret (v := .tuple #[.agg #[.int .i64 id, .string name, .slice F1 fn f1, .int .i64 most, .int .i64 burst, .int .i64 stage, .bool first, .int .i64 at_, .slice A2 m a2, .int .i64 0, .int .i64 patience, .int .i64 0, .int .i64 limit], .slice none 0 0, .int .i64 0]) (results_cell_two rfl _ _ (w.heap.size + 2) 55 _ (0, 0) _ rfl rfl rfl br2 Try.underlying55 rfl giversz) rfl ?_
            exact GvRes.of HR.out (HPP.out.trans (by unfold heardG; dsimp only; rw [if_neg HST.out, HFL.out, HE.out])) (gv_out (y := ⟨id, name, file, most, burst, stage, first, at_, askAll (fn : Int) again (ng.take i), 0, patience, 0, limit⟩) (base := w.heap.size + 3) hB (by omega) (by omega) (GvMem.none HFL.out HM.out hOF hOA))
  ·
    have kf := bp.frozen
    have ys := bp.cell' (i := 9) rfl
    go_upto_region 24 with fail
    clear ys kf
    have hoF := hOF.notBlk bp (by decide)
    have hoA := hOA.notBlk bp (by decide)
    replace bn := bn.far (p := ⟨w2.heap.size, 9, none⟩) (by show w.heap.size + 1 ≠ w2.heap.size; omega) (.int .i64 0)
    replace br := br.far (p := ⟨w2.heap.size, 9, none⟩) (by show w.heap.size + 2 ≠ w2.heap.size; omega) (.int .i64 0)
    replace bp := bp.set_ 9 (.int .i64 0)
    replace hOF := hOF.setFar (p := ⟨w2.heap.size, 9, none⟩) hoF (.int .i64 0)
    replace hOA := hOA.setFar (p := ⟨w2.heap.size, 9, none⟩) hoA (.int .i64 0)
    replace hB := hB.setCell (p := ⟨w2.heap.size, 9, none⟩) (by show w.heap.size ≤ w2.heap.size; omega) (.int .i64 0)
    clear hoF hoA
    generalize w3.setCell ⟨w2.heap.size, 9, none⟩ (.int .i64 0) = V5 at *
    clear p5 p0 n0 n1
    have kf := bp.frozen
    have ys := bp.cell' (i := 11) rfl
    go_upto_region 25 with fail
    clear ys kf
    have hoF := hOF.notBlk bp (by decide)
    have hoA := hOA.notBlk bp (by decide)
    replace bn := bn.far (p := ⟨w2.heap.size, 11, none⟩) (by show w.heap.size + 1 ≠ w2.heap.size; omega) (.int .i64 0)
    replace br := br.far (p := ⟨w2.heap.size, 11, none⟩) (by show w.heap.size + 2 ≠ w2.heap.size; omega) (.int .i64 0)
    replace bp := bp.set_ 11 (.int .i64 0)
    replace hOF := hOF.setFar (p := ⟨w2.heap.size, 11, none⟩) hoF (.int .i64 0)
    replace hOA := hOA.setFar (p := ⟨w2.heap.size, 11, none⟩) hoA (.int .i64 0)
    replace hB := hB.setCell (p := ⟨w2.heap.size, 11, none⟩) (by show w.heap.size ≤ w2.heap.size; omega) (.int .i64 0)
    clear hoF hoA
    generalize V5.setCell ⟨w2.heap.size, 11, none⟩ (.int .i64 0) = V6 at *
    have n0 := bn.cell' (i := 0) rfl
    have n8 := bn.cell' (i := 8) rfl
    have p5 := bp.cell' (i := 5) rfl
    go_upto_region 26 with fail
    clear n0 n8 p5
    have kf := bp.frozen
    have ys := bp.cell' (i := 5) rfl
    go_upto_region 27 with fail
    clear ys kf
    have hoF := hOF.notBlk bp (by decide)
    have hoA := hOA.notBlk bp (by decide)
    replace bn := bn.far (p := ⟨w2.heap.size, 5, none⟩) (by show w.heap.size + 1 ≠ w2.heap.size; omega) (.int .i64 2)
    replace br := br.far (p := ⟨w2.heap.size, 5, none⟩) (by show w.heap.size + 2 ≠ w2.heap.size; omega) (.int .i64 2)
    replace bp := bp.set_ 5 (.int .i64 2)
    replace hOF := hOF.setFar (p := ⟨w2.heap.size, 5, none⟩) hoF (.int .i64 2)
    replace hOA := hOA.setFar (p := ⟨w2.heap.size, 5, none⟩) hoA (.int .i64 2)
    replace hB := hB.setCell (p := ⟨w2.heap.size, 5, none⟩) (by show w.heap.size ≤ w2.heap.size; omega) (.int .i64 2)
    clear hoF hoA
    generalize V6.setCell ⟨w2.heap.size, 5, none⟩ (.int .i64 2) = V7 at *
    go_wp2_with fail
    go_loopw [8] (fun iv wr => ∃ (i : Nat) (A2 : Option Addr) (a2 m : Nat), i ≤ gn ∧ iv = .int .i64 (i : Int) ∧ m ≤ 1000 ∧ Hid ((askAll (fn : Int) again (ng.take i)).length = m) ∧ Own wr (w.heap.size + 3) 66 2 A2 m a2 (gps (askAll (fn : Int) again (ng.take i))) ∧ Blk wr w2.heap.size 55 #[.int .i64 id, .string name, .slice F1 fn f1, .int .i64 most, .int .i64 burst, .int .i64 2, .bool first, .int .i64 at_, .slice A2 m a2, .int .i64 0, .int .i64 patience, .int .i64 0, .int .i64 limit] ∧ Blk wr (w.heap.size + 1) 27 #[.int .i64 nk, .int .i64 nid, .string nn, .int .i64 ns_, .int .i64 nsum, .int .i64 nat_, .slice D dn dc, .slice G gn gc, .int .i64 nof, .int .i64 ncode] ∧ Blk wr (w.heap.size + 2) 55 #[.int .i64 0, .string ⟨#[]⟩, .slice none 0 0, .int .i64 0, .int .i64 0, .int .i64 0, .bool false, .int .i64 0, .slice none 0 0, .int .i64 0, .int .i64 0, .int .i64 0, .int .i64 0] ∧ Own wr (w.heap.size + 3) 5 1 F1 fn f1 (bvs file) ∧ Below w.heap.size w wr) (fun iv _ => gn - (intOf iv).toNat)
    case atStart => exact ⟨0, A1, a1, an, Nat.zero_le _, rfl, hal, Lib.hid HAL.out, hOA, bp, bn, br, hOF, hB⟩
    case round =>
      clear hOA bp bn br hOF hB hal
      obtain ⟨i, A2, a2, m, hi, rfl, hm, HM, hOA, bp, bn, br, hOF, hB⟩ := hrel
      have n7 := bn.cell' (i := 7) rfl
      have p8 := bp.cell' (i := 8) rfl
      have p2c := bp.cell' (i := 2) rfl
      by_cases h5 : i < gn ∧ m < 1000
      ·
        obtain ⟨h5, h6⟩ := h5
        have h5i : (i : Int) < (gn : Int) := by omega
        have h6i : (m : Int) < 1000 := by omega
        have hip : (0 : Int) ≤ (i : Int) := by omega
        obtain ⟨x, hx⟩ : ∃ x, ng[i]? = some x := ⟨_, List.getElem?_eq_getElem (by rw [HGL.out]; exact h5)⟩
        have HT : Hid (ng.take (i + 1) = ng.take i ++ [x]) := Lib.hid (by rw [List.take_add_one, hx]; rfl)
        have k1 : Hid ((gps ng)[i * 2 + 1]? = some (.int .i64 x.2)) := Lib.hid ((gps_get hx (j := 1) (by omega)).trans rfl)
        obtain ⟨g, oo, rfl, f0, f1⟩ := rdgap_cells (HG.out.below hB) hx
        clear hx
        obtain ⟨x1, x2⟩ := x
        dsimp only at f0 f1 HT k1
        have lz := bp.lt
        have lz1 := bn.lt
        by_cases c : (fn : Int) < x2
        ·
          have hqq : Hid (min x2 (fn : Int) = (fn : Int)) := Lib.hid (by omega)
          go_upto_region 33 with fail
          clear f0 f1 n7 p8 p2c
          have bq := Blk.new wr 66 #[.int .i64 x1, .int .i64 (fn : Int)]
          replace bp := bp.alloc (.cells #[.int .i64 x1, .int .i64 (fn : Int)] 66)
          replace bn := bn.alloc (.cells #[.int .i64 x1, .int .i64 (fn : Int)] 66)
          replace br := br.alloc (.cells #[.int .i64 x1, .int .i64 (fn : Int)] 66)
          replace hOF := hOF.alloc (.cells #[.int .i64 x1, .int .i64 (fn : Int)] 66)
          replace hOA := hOA.alloc (.cells #[.int .i64 x1, .int .i64 (fn : Int)] 66)
          clear lz lz1
          have hwz := bp.lt
          replace hB := hB.alloc (by have h := bp.lt; simp at h; omega) (.cells #[.int .i64 x1, .int .i64 (fn : Int)] 66)
          generalize wr.alloc (.cells #[.int .i64 x1, .int .i64 (fn : Int)] 66) = V3 at *
          have q0 := bq.cell' (i := 0) rfl
          have q1 := bq.cell' (i := 1) rfl
          have n7 := bn.cell' (i := 7) rfl
          have f1 : V3.cell? ⟨g, oo + i * 2 + 1, none⟩ = some (.int .i64 x2) := (HG.out.below hB).cell k1.out
          by_cases app : x2 = 0 ∨ x1 < (fn : Int)
          ·
            have HY : Hid (askAll (fn : Int) again (ng.take (i + 1)) = askAll (fn : Int) again (ng.take i) ++ [(x1, (fn : Int))]) := Lib.hid (by rw [HT.out, askAll_snoc, askG_yes (by rw [HM.out]; exact h6) hqq.out app])
            have ways : (x2 == 0) = true ∨ ((x2 == 0) = false ∧ x1 < (fn : Int)) := by
              by_cases z : x2 = 0
              · exact .inl (beq_t z)
              · exact .inr ⟨beq_f z, by omega⟩
            clear app c
            have p8 := bp.cell' (i := 8) rfl
            have hR5 := Rd_lit V3 [.int .i64 x1, .int .i64 (fn : Int)] 66
            have hOn := hOA.alloc (.cells #[.int .i64 x1, .int .i64 (fn : Int)] 66)
            have bpn := bp.alloc (.cells #[.int .i64 x1, .int .i64 (fn : Int)] 66)
            have q4 : m + 1 ≤ maxLen := by unfold maxLen; omega
            have q5 : (m + 1) * 16 ≤ 140737488355328 := by omega
            have hbs : w.heap.size + 3 ≤ (V3.alloc (.cells #[.int .i64 x1, .int .i64 (fn : Int)] 66)).heap.size := by have := bpn.lt; omega
            have hone : Hid (∀ u ∈ [Value.int .i64 x1, .int .i64 (fn : Int)], u.oneCell' = true) := Lib.hid (gps_one [(x1, (fn : Int))])
            have hnp := hOn.notBlk bpn (by decide)
            rcases ways with iz | ⟨iz, lt⟩
            all_goals
              go_upto_region 29 with (at_builtin; refine wpList_append_Own (V3.alloc (.cells #[.int .i64 x1, .int .i64 (fn : Int)] 66)) rfl (.tmp 129) (.tmp 131) 24 rfl (w.heap.size + 3) 66 j0 _ 2 16 Try.underlying24 hj0 hy0 hy1 hy2 rfl A2 m a2 (gps (askAll (fn : Int) again (ng.take i))) rfl hOn (some ⟨V3.heap.size, 0, none⟩) 1 1 [.int .i64 x1, .int .i64 (fn : Int)] rfl rfl hR5 hone.out q4 q5 hbs ?_; intro A6 c6 w6 hO6 hg6 hor6; have bp6 := bpn.grown hg6 (fun e => hnp e.symm); have kf6 := bp6.frozen; have y6 := bp6.cell' (i := 8) rfl)
              have hTn : ∀ (q : Nat), blk A2 = some q → w.heap.size + 3 ≤ q := fun q hq => (hOA.lt q hq).1
              replace bn := (bn.alloc (.cells #[.int .i64 x1, .int .i64 (fn : Int)] 66)).grown hg6 (fun e => by have := hTn _ e.symm; omega)
              replace br := (br.alloc (.cells #[.int .i64 x1, .int .i64 (fn : Int)] 66)).grown hg6 (fun e => by have := hTn _ e.symm; omega)
              replace hOF := (hOF.alloc (.cells #[.int .i64 x1, .int .i64 (fn : Int)] 66)).grown hg6 (fun q hq hq2 => (hOn.apart (hOF.alloc (.cells #[.int .i64 x1, .int .i64 (fn : Int)] 66)) (by decide)) q hq hq2)
              replace hB := (hB.alloc hB.size (.cells #[.int .i64 x1, .int .i64 (fn : Int)] 66)).grown hg6 (by omega) (fun q hq => by have := hTn q hq; omega)
              have hO7 := hO6.setFar (p := ⟨w2.heap.size, 8, none⟩) (hO6.notBlk bp6 (by decide)) (.slice A6 (m + 1) c6)
              replace hOF := hOF.setFar (p := ⟨w2.heap.size, 8, none⟩) (hOF.notBlk bp6 (by decide)) (.slice A6 (m + 1) c6)
              have bp7 := bp6.set_ 8 (.slice A6 (m + 1) c6)
              replace bn := bn.far (p := ⟨w2.heap.size, 8, none⟩) (by show w.heap.size + 1 ≠ w2.heap.size; omega) (.slice A6 (m + 1) c6)
              replace br := br.far (p := ⟨w2.heap.size, 8, none⟩) (by show w.heap.size + 2 ≠ w2.heap.size; omega) (.slice A6 (m + 1) c6)
              replace hB := hB.setCell (p := ⟨w2.heap.size, 8, none⟩) (by show w.heap.size ≤ w2.heap.size; omega) (.slice A6 (m + 1) c6)
              clear hO6 bp6 kf6 y6 hg6 hor6 bq q0 q1 n7 f1 p8 hR5 hOn bpn hnp hOA bp hTn hwz
              generalize w6.setCell ⟨w2.heap.size, 8, none⟩ (.slice A6 (m + 1) c6) = V7 at *
              go_wp2_with fail
              go_roundw
              case rel =>
                refine ⟨i + 1, A6, c6, m + 1, by omega, by go_num, by omega, Lib.hid (by rw [HY.out, List.length_append, HM.out]; rfl), ?_, bp7, bn, br, hOF, hB⟩
                rw [HY.out]
                have e : gps (askAll (fn : Int) again (ng.take i) ++ [(x1, (fn : Int))]) = gps (askAll (fn : Int) again (ng.take i)) ++ [.int .i64 x1, .int .i64 (fn : Int)] := by simp [gps, gpc]
                rw [e]
                exact hO7
              case measure => simp [intOf]; omega
          ·
            have HY : Hid (askAll (fn : Int) again (ng.take (i + 1)) = askAll (fn : Int) again (ng.take i)) := Lib.hid (by rw [HT.out, askAll_snoc, askG_no hqq.out app])
            have iz := beq_f (show x2 ≠ 0 from fun h => app (.inl h))
            have lt : ¬ x1 < (fn : Int) := fun h => app (.inr h)
            clear app c bq hwz
            go_wp2_with fail
            go_roundw
            case rel => exact ⟨i + 1, A2, a2, m, by omega, by go_num, by omega, Lib.hid (by rw [HY.out]; exact HM.out), by rw [HY.out]; exact hOA, bp, bn, br, hOF, hB⟩
            case measure => simp [intOf]; omega
        ·
          have hqq : Hid (min x2 (fn : Int) = x2) := Lib.hid (by omega)
          go_upto_region 33 with fail
          clear f0 f1 n7 p8 p2c
          have bq := Blk.new wr 66 #[.int .i64 x1, .int .i64 x2]
          replace bp := bp.alloc (.cells #[.int .i64 x1, .int .i64 x2] 66)
          replace bn := bn.alloc (.cells #[.int .i64 x1, .int .i64 x2] 66)
          replace br := br.alloc (.cells #[.int .i64 x1, .int .i64 x2] 66)
          replace hOF := hOF.alloc (.cells #[.int .i64 x1, .int .i64 x2] 66)
          replace hOA := hOA.alloc (.cells #[.int .i64 x1, .int .i64 x2] 66)
          clear lz lz1
          have hwz := bp.lt
          replace hB := hB.alloc (by have h := bp.lt; simp at h; omega) (.cells #[.int .i64 x1, .int .i64 x2] 66)
          generalize wr.alloc (.cells #[.int .i64 x1, .int .i64 x2] 66) = V3 at *
          have q0 := bq.cell' (i := 0) rfl
          have q1 := bq.cell' (i := 1) rfl
          have n7 := bn.cell' (i := 7) rfl
          have f1 : V3.cell? ⟨g, oo + i * 2 + 1, none⟩ = some (.int .i64 x2) := (HG.out.below hB).cell k1.out
          by_cases app : x2 = 0 ∨ x1 < x2
          ·
            have HY : Hid (askAll (fn : Int) again (ng.take (i + 1)) = askAll (fn : Int) again (ng.take i) ++ [(x1, x2)]) := Lib.hid (by rw [HT.out, askAll_snoc, askG_yes (by rw [HM.out]; exact h6) hqq.out app])
            have ways : (x2 == 0) = true ∨ ((x2 == 0) = false ∧ x1 < x2) := by
              by_cases z : x2 = 0
              · exact .inl (beq_t z)
              · exact .inr ⟨beq_f z, by omega⟩
            clear app c
            have p8 := bp.cell' (i := 8) rfl
            have hR5 := Rd_lit V3 [.int .i64 x1, .int .i64 x2] 66
            have hOn := hOA.alloc (.cells #[.int .i64 x1, .int .i64 x2] 66)
            have bpn := bp.alloc (.cells #[.int .i64 x1, .int .i64 x2] 66)
            have q4 : m + 1 ≤ maxLen := by unfold maxLen; omega
            have q5 : (m + 1) * 16 ≤ 140737488355328 := by omega
            have hbs : w.heap.size + 3 ≤ (V3.alloc (.cells #[.int .i64 x1, .int .i64 x2] 66)).heap.size := by have := bpn.lt; omega
            have hone : Hid (∀ u ∈ [Value.int .i64 x1, .int .i64 x2], u.oneCell' = true) := Lib.hid (gps_one [(x1, x2)])
            have hnp := hOn.notBlk bpn (by decide)
            rcases ways with iz | ⟨iz, lt⟩
            all_goals
              go_upto_region 29 with (at_builtin; refine wpList_append_Own (V3.alloc (.cells #[.int .i64 x1, .int .i64 x2] 66)) rfl (.tmp 129) (.tmp 131) 24 rfl (w.heap.size + 3) 66 j0 _ 2 16 Try.underlying24 hj0 hy0 hy1 hy2 rfl A2 m a2 (gps (askAll (fn : Int) again (ng.take i))) rfl hOn (some ⟨V3.heap.size, 0, none⟩) 1 1 [.int .i64 x1, .int .i64 x2] rfl rfl hR5 hone.out q4 q5 hbs ?_; intro A6 c6 w6 hO6 hg6 hor6; have bp6 := bpn.grown hg6 (fun e => hnp e.symm); have kf6 := bp6.frozen; have y6 := bp6.cell' (i := 8) rfl)
              have hTn : ∀ (q : Nat), blk A2 = some q → w.heap.size + 3 ≤ q := fun q hq => (hOA.lt q hq).1
              replace bn := (bn.alloc (.cells #[.int .i64 x1, .int .i64 x2] 66)).grown hg6 (fun e => by have := hTn _ e.symm; omega)
              replace br := (br.alloc (.cells #[.int .i64 x1, .int .i64 x2] 66)).grown hg6 (fun e => by have := hTn _ e.symm; omega)
              replace hOF := (hOF.alloc (.cells #[.int .i64 x1, .int .i64 x2] 66)).grown hg6 (fun q hq hq2 => (hOn.apart (hOF.alloc (.cells #[.int .i64 x1, .int .i64 x2] 66)) (by decide)) q hq hq2)
              replace hB := (hB.alloc hB.size (.cells #[.int .i64 x1, .int .i64 x2] 66)).grown hg6 (by omega) (fun q hq => by have := hTn q hq; omega)
              have hO7 := hO6.setFar (p := ⟨w2.heap.size, 8, none⟩) (hO6.notBlk bp6 (by decide)) (.slice A6 (m + 1) c6)
              replace hOF := hOF.setFar (p := ⟨w2.heap.size, 8, none⟩) (hOF.notBlk bp6 (by decide)) (.slice A6 (m + 1) c6)
              have bp7 := bp6.set_ 8 (.slice A6 (m + 1) c6)
              replace bn := bn.far (p := ⟨w2.heap.size, 8, none⟩) (by show w.heap.size + 1 ≠ w2.heap.size; omega) (.slice A6 (m + 1) c6)
              replace br := br.far (p := ⟨w2.heap.size, 8, none⟩) (by show w.heap.size + 2 ≠ w2.heap.size; omega) (.slice A6 (m + 1) c6)
              replace hB := hB.setCell (p := ⟨w2.heap.size, 8, none⟩) (by show w.heap.size ≤ w2.heap.size; omega) (.slice A6 (m + 1) c6)
              clear hO6 bp6 kf6 y6 hg6 hor6 bq q0 q1 n7 f1 p8 hR5 hOn bpn hnp hOA bp hTn hwz
              generalize w6.setCell ⟨w2.heap.size, 8, none⟩ (.slice A6 (m + 1) c6) = V7 at *
              go_wp2_with fail
              go_roundw
              case rel =>
                refine ⟨i + 1, A6, c6, m + 1, by omega, by go_num, by omega, Lib.hid (by rw [HY.out, List.length_append, HM.out]; rfl), ?_, bp7, bn, br, hOF, hB⟩
                rw [HY.out]
                have e : gps (askAll (fn : Int) again (ng.take i) ++ [(x1, x2)]) = gps (askAll (fn : Int) again (ng.take i)) ++ [.int .i64 x1, .int .i64 x2] := by simp [gps, gpc]
                rw [e]
                exact hO7
              case measure => simp [intOf]; omega
          ·
            have HY : Hid (askAll (fn : Int) again (ng.take (i + 1)) = askAll (fn : Int) again (ng.take i)) := Lib.hid (by rw [HT.out, askAll_snoc, askG_no hqq.out app])
            have iz := beq_f (show x2 ≠ 0 from fun h => app (.inl h))
            have lt : ¬ x1 < x2 := fun h => app (.inr h)
            clear app c bq hwz
            go_wp2_with fail
            go_roundw
            case rel => exact ⟨i + 1, A2, a2, m, by omega, by go_num, by omega, Lib.hid (by rw [HY.out]; exact HM.out), by rw [HY.out]; exact hOA, bp, bn, br, hOF, hB⟩
            case measure => simp [intOf]; omega
      ·
        have HE : Hid (askAll (fn : Int) again ng = askAll (fn : Int) again (ng.take i)) := Lib.hid (by
          by_cases h7 : i < gn
          · have h8 : 1000 ≤ (askAll (fn : Int) again (ng.take i)).length := by rw [HM.out]; omega
            have h9 := askAll_append (fn : Int) again (ng.take i) (ng.drop i)
            rw [List.take_append_drop, askAll_full h8] at h9
            exact h9
          · rw [List.take_of_length_le (by rw [HGL.out]; omega)])
        have ways : ¬ (i : Int) < (gn : Int) ∨ ((i : Int) < (gn : Int) ∧ ¬ (m : Int) < 1000) := by omega
        clear h5
        rcases ways with g1 | ⟨g1, g2⟩
        all_goals
          go_wp2_with (first
            | (refine wpList_load_row rfl 55 (.tmp 7) rfl w2.heap.size rfl 55 #[.int .i64 id, .string name, .slice F1 fn f1, .int .i64 most, .int .i64 burst, .int .i64 2, .bool first, .int .i64 at_, .slice A2 m a2, .int .i64 0, .int .i64 patience, .int .i64 0, .int .i64 limit] (0, 0) _ bp Try.underlying55 rfl giversz ?_)
            | (refine wpList_store_row rfl 55 (.tmp 4) (.tmp 134) rfl (w.heap.size + 2) #[.int .i64 id, .string name, .slice F1 fn f1, .int .i64 most, .int .i64 burst, .int .i64 2, .bool first, .int .i64 at_, .slice A2 m a2, .int .i64 0, .int .i64 patience, .int .i64 0, .int .i64 limit] rfl rfl 55 _ br giversz rfl (by simp [Value.oneCell']) ?_))
          have br2 := br.row #[.int .i64 id, .string name, .slice F1 fn f1, .int .i64 most, .int .i64 burst, .int .i64 2, .bool first, .int .i64 at_, .slice A2 m a2, .int .i64 0, .int .i64 patience, .int .i64 0, .int .i64 limit]
          refine bodyPost_ret (v := .tuple #[.agg #[.int .i64 id, .string name, .slice F1 fn f1, .int .i64 most, .int .i64 burst, .int .i64 2, .bool first, .int .i64 at_, .slice A2 m a2, .int .i64 0, .int .i64 patience, .int .i64 0, .int .i64 limit], .slice none 0 0, .int .i64 0]) (results_cell_two rfl _ _ (w.heap.size + 2) 55 _ (0, 0) _ rfl rfl rfl br2 Try.underlying55 rfl giversz) rfl ?_
          exact GvRes.of HR.out (HPP.out.trans (by unfold heardG; dsimp only; rw [if_pos HST.out, HFL.out, HE.out])) (gv_out (y := ⟨id, name, file, most, burst, 2, first, at_, askAll (fn : Int) again (ng.take i), 0, patience, 0, limit⟩) (base := w.heap.size + 3) hB (by omega) (by omega) (GvMem.none HFL.out HM.out hOF hOA))
end Go.Proofs.Ytianombjgdmbeaa
