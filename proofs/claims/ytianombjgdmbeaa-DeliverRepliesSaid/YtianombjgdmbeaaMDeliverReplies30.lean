/-
  A note comes to a giver, by the program (deliver.Reply).
-/
import Derived.Test.YtianombjgdmbeaaMDeliverReplies28
import Derived.Test.YtianombjgdmbeaaMDeliverReplies29
namespace Go.Proofs.Ytianombjgdmbeaa
set_option linter.unusedSimpArgs false
set_option linter.unusedVariables false
open Go.RowKit

theorem replyR_len {x : Gv} {n : Nt} {y : Gv} {ns : List Nt} {k : Int} (h : replyR x n = (y, ns, k)) (hx : x.again.length ≤ 8796093022200) : y.again.length ≤ 8796093022200 := by
  have e : y = (replyR x n).1 := by rw [h]
  rw [e]
  unfold replyR
  split
  · simp [gvZero]
  · rename_i hok
    have hok' : gvOk x = true := by simpa using hok
    have hl := (gv_parts hok').2.2.1
    split
    · exact hx
    · split
      · exact hx
      · split
        · exact hx
        · split
          · exact hx
          · split
            · unfold endG
              split
              · exact hx
              · simp
            · split
              · exact hx
              · show (askAll _ _ _).length ≤ _
                have := askAll_len (L := (x.file.length : Int)) n.gaps x.again hl
                omega
theorem replyR_zero {x : Gv} {n : Nt} {y : Gv} {ns : List Nt} {k : Int} (h : replyR x n = (y, ns, k)) (h0 : gvOk x = false) : y = gvZero ∧ ns = [] ∧ k = 11 := by
  rw [reply_0 h0] at h
  injection h with e1 h
  injection h with e2 e3
  exact ⟨e1.symm, e2.symm, e3.symm⟩
set_option maxHeartbeats 6400000 in
set_option maxRecDepth 100000 in
theorem reply_any (x : Gv) (F : Option Addr) (fn fc : Nat) (A : Option Addr) (an ac : Nat) (n : Nt) (D : Option Addr) (dn dc : Nat) (G : Option Addr) (gn gc : Nat) (y : Gv) (ns : List Nt) (k : Int) (w : World) (hR : replyR x n = (y, ns, k)) (hf : x.file.length = fn) (ha : x.again.length = an) (hF : Rd w F (bvs x.file)) (hA : Rd w A (gps x.again)) (hfn : fn ≤ 140737488351232) (han : an ≤ 8796093022200)
    (hd : n.data.length = dn) (hg : n.gaps.length = gn) (hG : Rd w G (gps n.gaps)) (hGlt : ∀ i, blk G = some i → i < w.heap.size) (hgn : gn ≤ 8796093022200) :
    Calls Try.prog 31 #[gvv x F fn fc A an ac, ntv n D dn dc G gn gc] w fun e w' => GvRes w w' y ns k e := by
  have hya := replyR_len hR (by omega)
  have hzr := fun h => replyR_zero hR h
  have CG := Lib.hid (fun (V : World) (nb : Nat) (hB : Below w.heap.size w V) (hlt : w.heap.size ≤ V.heap.size) (hnV : nb < V.heap.size) (hnb : Blk V nb 27 #[.int .i64 n.kind, .int .i64 n.id, .string n.name, .int .i64 n.size, .int .i64 n.sum, .int .i64 n.at_, .slice D dn dc, .slice G gn gc, .int .i64 n.of_, .int .i64 n.code]) =>
    giving_Reply (.pointer (some ⟨nb, 0, none⟩)) x F fn fc A an ac y ns k V hf ha (hF.below hB) (hA.below hB) hfn han hya hzr
      (fun V' q base F1 A1 f1 a1 hok hBV hq hOF hOA h1 h2 h3 => doReply_any x F1 fn f1 A1 an a1 n D dn dc G gn gc y ns k nb q base V' hR hok hq (hnb.below' hBV) hf ha hOF hOA hd hg ((hG.below hB).below hBV) (fun i hi => by have := hGlt i hi; omega) hgn h2 (by omega) h3))
  obtain ⟨id, name, file, most, burst, stage, first, at_, again, timer, patience, tries, limit⟩ := x
  obtain ⟨nk, nid, nn, ns_, nsum, nat_, nd, ng, nof, ncode⟩ := n
  unfold gvv gvc at CG
  unfold gvv gvc ntv
  dsimp only at CG ⊢
  have bx := ((Blk.new w 55 #[.int .i64 id, .string name, .slice F fn fc, .int .i64 most, .int .i64 burst, .int .i64 stage, .bool first, .int .i64 at_, .slice A an ac, .int .i64 timer, .int .i64 patience, .int .i64 tries, .int .i64 limit]).alloc (.cells #[.int .i64 nk, .int .i64 nid, .string nn, .int .i64 ns_, .int .i64 nsum, .int .i64 nat_, .slice D dn dc, .slice G gn gc, .int .i64 nof, .int .i64 ncode] 27)).alloc (.cells #[.int .i64 0, .string ⟨#[]⟩, .slice none 0 0, .int .i64 0, .int .i64 0, .int .i64 0, .bool false, .int .i64 0, .slice none 0 0, .int .i64 0, .int .i64 0, .int .i64 0, .int .i64 0] 55)
  have bn := (Blk.new (w.alloc (.cells #[.int .i64 id, .string name, .slice F fn fc, .int .i64 most, .int .i64 burst, .int .i64 stage, .bool first, .int .i64 at_, .slice A an ac, .int .i64 timer, .int .i64 patience, .int .i64 tries, .int .i64 limit] 55)) 27 #[.int .i64 nk, .int .i64 nid, .string nn, .int .i64 ns_, .int .i64 nsum, .int .i64 nat_, .slice D dn dc, .slice G gn gc, .int .i64 nof, .int .i64 ncode]).alloc (.cells #[.int .i64 0, .string ⟨#[]⟩, .slice none 0 0, .int .i64 0, .int .i64 0, .int .i64 0, .bool false, .int .i64 0, .slice none 0 0, .int .i64 0, .int .i64 0, .int .i64 0, .int .i64 0] 55)
  have br := Blk.new ((w.alloc (.cells #[.int .i64 id, .string name, .slice F fn fc, .int .i64 most, .int .i64 burst, .int .i64 stage, .bool first, .int .i64 at_, .slice A an ac, .int .i64 timer, .int .i64 patience, .int .i64 tries, .int .i64 limit] 55)).alloc (.cells #[.int .i64 nk, .int .i64 nid, .string nn, .int .i64 ns_, .int .i64 nsum, .int .i64 nat_, .slice D dn dc, .slice G gn gc, .int .i64 nof, .int .i64 ncode] 27)) 55 #[.int .i64 0, .string ⟨#[]⟩, .slice none 0 0, .int .i64 0, .int .i64 0, .int .i64 0, .bool false, .int .i64 0, .slice none 0 0, .int .i64 0, .int .i64 0, .int .i64 0, .int .i64 0]
  rw [show (w.alloc (.cells #[.int .i64 id, .string name, .slice F fn fc, .int .i64 most, .int .i64 burst, .int .i64 stage, .bool first, .int .i64 at_, .slice A an ac, .int .i64 timer, .int .i64 patience, .int .i64 tries, .int .i64 limit] 55)).heap.size = w.heap.size + 1 by simp] at bn
  rw [show ((w.alloc (.cells #[.int .i64 id, .string name, .slice F fn fc, .int .i64 most, .int .i64 burst, .int .i64 stage, .bool first, .int .i64 at_, .slice A an ac, .int .i64 timer, .int .i64 patience, .int .i64 tries, .int .i64 limit] 55)).alloc (.cells #[.int .i64 nk, .int .i64 nid, .string nn, .int .i64 ns_, .int .i64 nsum, .int .i64 nat_, .slice D dn dc, .slice G gn gc, .int .i64 nof, .int .i64 ncode] 27)).heap.size = w.heap.size + 2 by simp] at br
  have hB : Below w.heap.size w (((w.alloc (.cells #[.int .i64 id, .string name, .slice F fn fc, .int .i64 most, .int .i64 burst, .int .i64 stage, .bool first, .int .i64 at_, .slice A an ac, .int .i64 timer, .int .i64 patience, .int .i64 tries, .int .i64 limit] 55)).alloc (.cells #[.int .i64 nk, .int .i64 nid, .string nn, .int .i64 ns_, .int .i64 nsum, .int .i64 nat_, .slice D dn dc, .slice G gn gc, .int .i64 nof, .int .i64 ncode] 27)).alloc (.cells #[.int .i64 0, .string ⟨#[]⟩, .slice none 0 0, .int .i64 0, .int .i64 0, .int .i64 0, .bool false, .int .i64 0, .slice none 0 0, .int .i64 0, .int .i64 0, .int .i64 0, .int .i64 0] 55)) := (((Below.refl _ _).alloc (Nat.le_refl _) _).alloc (by simp) _).alloc (by simp; omega) _
  go_enter Try.func31, Try.ntmps31
  go_upto_region 1 with fail
  generalize ((w.alloc (.cells #[.int .i64 id, .string name, .slice F fn fc, .int .i64 most, .int .i64 burst, .int .i64 stage, .bool first, .int .i64 at_, .slice A an ac, .int .i64 timer, .int .i64 patience, .int .i64 tries, .int .i64 limit] 55)).alloc (.cells #[.int .i64 nk, .int .i64 nid, .string nn, .int .i64 ns_, .int .i64 nsum, .int .i64 nat_, .slice D dn dc, .slice G gn gc, .int .i64 nof, .int .i64 ncode] 27)).alloc (.cells #[.int .i64 0, .string ⟨#[]⟩, .slice none 0 0, .int .i64 0, .int .i64 0, .int .i64 0, .bool false, .int .i64 0, .slice none 0 0, .int .i64 0, .int .i64 0, .int .i64 0, .int .i64 0] 55) = W at *
  have zb := br.lt
  have CG2 := Lib.hid (CG.out W (w.heap.size + 1) hB hB.size bn.lt bn)
  clear CG
  go_wp2_with (refine wpList_load_row rfl 55 (.tmp 2) rfl w.heap.size rfl 55 #[.int .i64 id, .string name, .slice F fn fc, .int .i64 most, .int .i64 burst, .int .i64 stage, .bool first, .int .i64 at_, .slice A an ac, .int .i64 timer, .int .i64 patience, .int .i64 tries, .int .i64 limit] (0, 0) _ bx Try.underlying55 rfl giversz ?_)
  refine CG2.out.mono ?_
  intro e w1 h1
  obtain ⟨F1, n1, f1, A1, m1, a1, O, on, oc, l, rfl, hM, hb⟩ := h1
  replace br := br.step hb
  have zt := hb.size
  replace hB := hB.trans (hb.mono hB.size)
  clear hb CG2 hya hzr
  have HR := Lib.hid hR
  clear hR
  obtain ⟨yid, yname, yfile, ymost, yburst, ystage, yfirst, yat_, yagain, ytimer, ypatience, ytries, ylimit⟩ := y
  unfold gvv gvc
  dsimp only
  go_wp2_with (refine wpList_store_row rfl 55 (.tmp 4) (.tmp 10) rfl (w.heap.size + 2) #[.int .i64 yid, .string yname, .slice F1 n1 f1, .int .i64 ymost, .int .i64 yburst, .int .i64 ystage, .bool yfirst, .int .i64 yat_, .slice A1 m1 a1, .int .i64 ytimer, .int .i64 ypatience, .int .i64 ytries, .int .i64 ylimit] rfl rfl 55 _ br giversz rfl (by simp [Value.oneCell']) ?_)
  have br2 := br.row #[.int .i64 yid, .string yname, .slice F1 n1 f1, .int .i64 ymost, .int .i64 yburst, .int .i64 ystage, .bool yfirst, .int .i64 yat_, .slice A1 m1 a1, .int .i64 ytimer, .int .i64 ypatience, .int .i64 ytries, .int .i64 ylimit]
  refine bodyPost_ret (v := .tuple #[.agg #[.int .i64 yid, .string yname, .slice F1 n1 f1, .int .i64 ymost, .int .i64 yburst, .int .i64 ystage, .bool yfirst, .int .i64 yat_, .slice A1 m1 a1, .int .i64 ytimer, .int .i64 ypatience, .int .i64 ytries, .int .i64 ylimit], .slice O on oc, .int .i64 k]) (results_cell_two rfl _ _ (w.heap.size + 2) 55 _ (0, 0) _ rfl rfl rfl br2 Try.underlying55 rfl giversz) rfl ?_
  exact gv_out (y := ⟨yid, yname, yfile, ymost, yburst, ystage, yfirst, yat_, yagain, ytimer, ypatience, ytries, ylimit⟩) (base := W.heap.size) hB (by omega) (by omega) hM
set_option maxHeartbeats 6400000 in
set_option maxRecDepth 100000 in
theorem replies1_any (x : Gv) (F : Option Addr) (fn fc : Nat) (A : Option Addr) (an ac : Nat) (n : Nt) (D : Option Addr) (dn dc : Nat) (G : Option Addr) (gn gc : Nat) (y : Gv) (ns : List Nt) (k : Int) (nb : Nat) (w : World) (hR : replyR x n = (y, ns, k)) (hf : x.file.length = fn) (ha : x.again.length = an) (hF : Rd w F (bvs x.file)) (hA : Rd w A (gps x.again)) (hfn : fn ≤ 140737488351232) (han : an ≤ 8796093022200)
    (hd : n.data.length = dn) (hg : n.gaps.length = gn) (hG : Rd w G (gps n.gaps)) (hGlt : ∀ i, blk G = some i → i < w.heap.size) (hgn : gn ≤ 8796093022200) (hnb : Blk w nb 27 #[.int .i64 n.kind, .int .i64 n.id, .string n.name, .int .i64 n.size, .int .i64 n.sum, .int .i64 n.at_, .slice D dn dc, .slice G gn gc, .int .i64 n.of_, .int .i64 n.code]) :
    Calls Try.prog 30 #[gvv x F fn fc A an ac, .pointer (some ⟨nb, 0, none⟩)] w fun e w' => GvRes w w' y ns k e := by
  have CR := Lib.hid (fun (V : World) (hB : Below w.heap.size w V) => reply_any x F fn fc A an ac n D dn dc G gn gc y ns k V hR hf ha (hF.below hB) (hA.below hB) hfn han hd hg (hG.below hB) (fun i hi => by have := hGlt i hi; have := hB.size; omega) hgn)
  obtain ⟨id, name, file, most, burst, stage, first, at_, again, timer, patience, tries, limit⟩ := x
  obtain ⟨nk, nid, nn, ns_, nsum, nat_, nd, ng, nof, ncode⟩ := n
  unfold gvv gvc ntv at CR
  unfold gvv gvc
  dsimp only at CR hnb ⊢
  have bx := (Blk.new w 55 #[.int .i64 id, .string name, .slice F fn fc, .int .i64 most, .int .i64 burst, .int .i64 stage, .bool first, .int .i64 at_, .slice A an ac, .int .i64 timer, .int .i64 patience, .int .i64 tries, .int .i64 limit]).alloc (.cells #[.int .i64 0, .string ⟨#[]⟩, .slice none 0 0, .int .i64 0, .int .i64 0, .int .i64 0, .bool false, .int .i64 0, .slice none 0 0, .int .i64 0, .int .i64 0, .int .i64 0, .int .i64 0] 55)
  have bn := (hnb.alloc (.cells #[.int .i64 id, .string name, .slice F fn fc, .int .i64 most, .int .i64 burst, .int .i64 stage, .bool first, .int .i64 at_, .slice A an ac, .int .i64 timer, .int .i64 patience, .int .i64 tries, .int .i64 limit] 55)).alloc (.cells #[.int .i64 0, .string ⟨#[]⟩, .slice none 0 0, .int .i64 0, .int .i64 0, .int .i64 0, .bool false, .int .i64 0, .slice none 0 0, .int .i64 0, .int .i64 0, .int .i64 0, .int .i64 0] 55)
  have br := Blk.new (w.alloc (.cells #[.int .i64 id, .string name, .slice F fn fc, .int .i64 most, .int .i64 burst, .int .i64 stage, .bool first, .int .i64 at_, .slice A an ac, .int .i64 timer, .int .i64 patience, .int .i64 tries, .int .i64 limit] 55)) 55 #[.int .i64 0, .string ⟨#[]⟩, .slice none 0 0, .int .i64 0, .int .i64 0, .int .i64 0, .bool false, .int .i64 0, .slice none 0 0, .int .i64 0, .int .i64 0, .int .i64 0, .int .i64 0]
  rw [show (w.alloc (.cells #[.int .i64 id, .string name, .slice F fn fc, .int .i64 most, .int .i64 burst, .int .i64 stage, .bool first, .int .i64 at_, .slice A an ac, .int .i64 timer, .int .i64 patience, .int .i64 tries, .int .i64 limit] 55)).heap.size = w.heap.size + 1 by simp] at br
  have hB : Below w.heap.size w ((w.alloc (.cells #[.int .i64 id, .string name, .slice F fn fc, .int .i64 most, .int .i64 burst, .int .i64 stage, .bool first, .int .i64 at_, .slice A an ac, .int .i64 timer, .int .i64 patience, .int .i64 tries, .int .i64 limit] 55)).alloc (.cells #[.int .i64 0, .string ⟨#[]⟩, .slice none 0 0, .int .i64 0, .int .i64 0, .int .i64 0, .bool false, .int .i64 0, .slice none 0 0, .int .i64 0, .int .i64 0, .int .i64 0, .int .i64 0] 55)) := ((Below.refl _ _).alloc (Nat.le_refl _) _).alloc (by simp) _
  go_enter Try.func30, Try.ntmps30
  go_upto_region 1 with fail
  generalize (w.alloc (.cells #[.int .i64 id, .string name, .slice F fn fc, .int .i64 most, .int .i64 burst, .int .i64 stage, .bool first, .int .i64 at_, .slice A an ac, .int .i64 timer, .int .i64 patience, .int .i64 tries, .int .i64 limit] 55)).alloc (.cells #[.int .i64 0, .string ⟨#[]⟩, .slice none 0 0, .int .i64 0, .int .i64 0, .int .i64 0, .bool false, .int .i64 0, .slice none 0 0, .int .i64 0, .int .i64 0, .int .i64 0, .int .i64 0] 55) = W at *
  have zb := br.lt
  go_wp2_with (first
    | (refine wpList_load_row rfl 55 (.tmp 2) rfl w.heap.size rfl 55 #[.int .i64 id, .string name, .slice F fn fc, .int .i64 most, .int .i64 burst, .int .i64 stage, .bool first, .int .i64 at_, .slice A an ac, .int .i64 timer, .int .i64 patience, .int .i64 tries, .int .i64 limit] (0, 0) _ bx Try.underlying55 rfl giversz ?_)
    | (refine wpList_load_row rfl 27 (.tmp 1) rfl nb rfl 27 #[.int .i64 nk, .int .i64 nid, .string nn, .int .i64 ns_, .int .i64 nsum, .int .i64 nat_, .slice D dn dc, .slice G gn gc, .int .i64 nof, .int .i64 ncode] (0, 0) _ bn Try.underlying27 rfl notesz ?_))
  refine (CR.out _ hB).mono ?_
  intro e w1 h1
  obtain ⟨F1, n1, f1, A1, m1, a1, O, on, oc, l, rfl, hM, hb⟩ := h1
  replace br := br.step hb
  have zt := hb.size
  replace hB := hB.trans (hb.mono hB.size)
  clear hb CR
  have HR := Lib.hid hR
  clear hR
  obtain ⟨yid, yname, yfile, ymost, yburst, ystage, yfirst, yat_, yagain, ytimer, ypatience, ytries, ylimit⟩ := y
  unfold gvv gvc
  dsimp only
  go_wp2_with (refine wpList_store_row rfl 55 (.tmp 3) (.tmp 9) rfl (w.heap.size + 1) #[.int .i64 yid, .string yname, .slice F1 n1 f1, .int .i64 ymost, .int .i64 yburst, .int .i64 ystage, .bool yfirst, .int .i64 yat_, .slice A1 m1 a1, .int .i64 ytimer, .int .i64 ypatience, .int .i64 ytries, .int .i64 ylimit] rfl rfl 55 _ br giversz rfl (by simp [Value.oneCell']) ?_)
  have br2 := br.row #[.int .i64 yid, .string yname, .slice F1 n1 f1, .int .i64 ymost, .int .i64 yburst, .int .i64 ystage, .bool yfirst, .int .i64 yat_, .slice A1 m1 a1, .int .i64 ytimer, .int .i64 ypatience, .int .i64 ytries, .int .i64 ylimit]
  refine bodyPost_ret (v := .tuple #[.agg #[.int .i64 yid, .string yname, .slice F1 n1 f1, .int .i64 ymost, .int .i64 yburst, .int .i64 ystage, .bool yfirst, .int .i64 yat_, .slice A1 m1 a1, .int .i64 ytimer, .int .i64 ypatience, .int .i64 ytries, .int .i64 ylimit], .slice O on oc, .int .i64 k]) (results_cell_two rfl _ _ (w.heap.size + 1) 55 _ (0, 0) _ rfl rfl rfl br2 Try.underlying55 rfl giversz) rfl ?_
  exact gv_out (y := ⟨yid, yname, yfile, ymost, yburst, ystage, yfirst, yat_, yagain, ytimer, ypatience, ytries, ylimit⟩) (base := W.heap.size) hB (by omega) (by omega) hM
end Go.Proofs.Ytianombjgdmbeaa
